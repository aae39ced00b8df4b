/- SlotsBack, SlotsApart, SlotsPlays: for every input the law's Go function answers true, and its arguments read behind the call as before. No conditions. -/
import Derived.Test.YthegocjfnjfkdaaZ1
import Derived.Test.YthegocjfnjfkdaaZ3
import Derived.Deep.Slices
import Derived.ChangeSame
import Derived.ReadAgain
import Derived.RowKit3
import Derived.OpenShut
import Derived.JoinedCond
import Derived.SizedLaws
import Derived.KernelRfl
import Derived.Test.YthegocjfnjfkdaaRows
/- Package slots: Get, Empty. -/
namespace Go.Proofs.Ythegocjfnjfkdaa
open Go.D
set_option linter.all false
set_option maxRecDepth 100000
set_option maxHeartbeats 4000000

theorem M.tick_tick (m : M) (j k : Int) : (m.tick j).tick k = m.tick (j + k) := by
  refine M.ext' rfl ?_
  simp only [M.tick]
  rw [IntKind.wrap_i64, IntKind.wrap_i64, IntKind.wrap_i64]; omega

/-- What four words say. -/
def slotC (w0 w1 w2 : Int) : Slot := ⟨decC w0 w1, w2 % 65536, w2 / 65536 % 65536, w2 / 4294967296 % 65536⟩
def slotB (w0 w1 w2 w3 : Int) : Bool := decB w0 w1 && (decide (w2 / 281474976710656 = 0) && (w3 == 0 && slotRB (slotC w0 w1 w2)))
def M.slotB (m : M) (a : Int) : Bool := _root_.Go.Proofs.Ythegocjfnjfkdaa.slotB (m.at a) (m.at (a + 1)) (m.at (a + 2)) (m.at (a + 3))
def M.slotC (m : M) (a : Int) : Slot := _root_.Go.Proofs.Ythegocjfnjfkdaa.slotC (m.at a) (m.at (a + 1)) (m.at (a + 2))
def getSM (b : Nat) (m : M) (st : M → List Blk) : List V → Res
  | [.s (.i .i64 a)] => .br (thereB m a) (.br (m.slotB a) (.ok (.tup [.agg (m.slotC a).cl, .s (.i .i64 0)]) [] (st (m.tick 4))) (.ok (.tup [.agg slotZ.cl, .s (.i .i64 110)]) [] (st (m.tick 4))))
      (.ok (.tup [.agg slotZ.cl, .s (.i .i64 20)]) [] (st m))
  | _ => .bad
noncomputable def getSG := memF getSM

theorem there_iff {m : M} {a : Int} : thereB m a = true ↔ 4 ≤ a ∧ a.tmod 4 = 0 ∧ a ≤ m.w.length - 4 := by
  simp only [thereB, Bool.and_eq_true, decide_eq_true_eq, beq_iff_eq]

theorem up16_B (w : Nat) : unpackB (w : Int) [16, 16, 16] 0 = decide ((w : Int) / 281474976710656 = 0) := by
  simp only [unpackB, fieldB, Int.reduceAdd, Int.reduceSub, Int.reduceLE, Int.reduceToNat, Int.toNat_natCast, Nat.reducePow, and_true, decide_true, Bool.true_and]
  rw [Bool.eq_iff_iff]; simp only [decide_eq_true_eq]; omega
theorem up16_V (w : Nat) : unpackV (w : Int) [16, 16, 16] 0 = [(w : Int) % 65536, (w : Int) / 65536 % 65536, (w : Int) / 4294967296 % 65536] := by
  simp only [unpackV, getV, Int.reduceAdd, Int.reduceToNat, Int.toNat_natCast, Nat.reducePow, Nat.div_one]
  simp only [List.cons.injEq, and_true]
  omega

noncomputable def TGt : Tab := addT 70 sthereG (addT 74 readG (addT 19 decG (addT 60 unpackG (addT 68 slotRG noT))))
theorem TGt_snd : TGt.Snd Try.prog := addT_snd ok70 sthere_snd (addT_snd ok74 mread_snd (addT_snd ok19 dec_snd (addT_snd ok60 unpack_snd (addT_snd ok68 slotR_snd (noT_snd _)))))
theorem getS_snd : Snd Try.prog 43 (FSpec.of getSG) := snd_run TGt_snd mixed Try.func43 dc43 300 fun args h K hc hS => by
  obtain ⟨a, b, m, rest, rfl, H, hS1⟩ := memF_spec hS
  clear hS
  have hS := hS1
  clear hS1
  unfold getSM at hS
  split at hS
  · rename_i x
    simp only [spec_ok, spec_br, setM_self H] at hS
    have hl := m.l
    cases ht : thereB m x with
    | false =>
      have hS := hS.2 ht
      simp (config := { maxSteps := 10000000 }) only [EV1, EV2, EV3, EV4, EV5, EV6, addT, istep, pickR, putD, bin1R, un1R, slcR, bnd, capsOf, fillP, V.plain, V.cells, V.known, C.v, blk, setL, setH, eqS, eq1, cmpS, cmp1, isNil, popTo, killT, setT, leT, V.below, S.below, R.below, V.val, C.val, S.val, R.val, R.takes, vals, shows, unnamed, V.kill, V.names, C.names, S.names, R.names, List.set, List.replicate, ↓q_cond_t, ↓q_cond_f, if_true, if_false, reduceCtorEq, rvals, rvC, result, C.known, V.noL, C.noL, S.noL, R.noL, Option.map, true_and, and_true, ge_iff_le, gt_iff_lt, implies_true, q_ite_t, q_ite_f, beq_iff_eq, bne_iff_ne, q_ne, Nat.reduceAdd, Nat.reducePow, Int.reducePow, Nat.reduceMul, Nat.reduceSub, Nat.reduceLeDiff, Nat.reduceLT, Nat.reduceEqDiff, Int.reduceNeg, Int.reduceLT, Int.reduceLE, Int.reduceEq, Int.reduceNe, Int.reduceAdd, Int.reduceSub, Int.reduceMul, Int.reduceToNat, Int.reduceBEq, Int.reduceBNe, df43, TGt, sthereG, memF_eq H, sthereM, setM_self H, ht, put, fillP, sub, List.take_succ_cons, List.take_zero, List.drop_zero]
      exact hS
    | true =>
      have hS := hS.1 ht
      have hb := there_iff.1 ht
      have hcm : ∀ m', clean (setM h a b m').length (setM h a b m') = true := fun m' => by rw [setM_len]; exact setM_clean H hc H.ltb
      have h0 : m.has x 1 = true := M.has_of (by omega)
      have h1 : m.has (x + 1) 1 = true := M.has_of (by omega)
      have h2 : m.has (x + 2) 1 = true := M.has_of (by omega)
      have h3 : m.has (x + 3) 1 = true := M.has_of (by omega)
      have w0 : IntKind.i64.wrap (x + 0) = x := by rw [wrap64] <;> omega
      have w1 : IntKind.i64.wrap (x + 1) = x + 1 := wrap64 (by omega) (by omega)
      have w2 : IntKind.i64.wrap (x + 2) = x + 2 := wrap64 (by omega) (by omega)
      have w3 : IntKind.i64.wrap (x + 3) = x + 3 := wrap64 (by omega) (by omega)
      have v1 : IntKind.i64.wrap 1 = 1 := by decide
      have v2 : IntKind.i64.wrap 2 = 2 := by decide
      have v3 : IntKind.i64.wrap 3 = 3 := by decide
      have v4 : IntKind.i64.wrap 4 = 4 := by decide
      have u0 := m.at_u x
      have u1 := m.at_u (x + 1)
      have u2 := m.at_u (x + 2)
      have u3 := m.at_u (x + 3)
      simp only [M.slotB, M.slotC] at hS
      obtain ⟨a0, e0⟩ : ∃ a, m.at x = a := ⟨_, rfl⟩
      obtain ⟨a1, e1⟩ : ∃ a, m.at (x + 1) = a := ⟨_, rfl⟩
      obtain ⟨a2, e2⟩ : ∃ a, m.at (x + 2) = a := ⟨_, rfl⟩
      obtain ⟨a3, e3⟩ : ∃ a, m.at (x + 3) = a := ⟨_, rfl⟩
      rw [e0] at u0 hS
      rw [e1] at u1 hS
      rw [e2] at u2 hS
      rw [e3] at hS
      obtain ⟨a2, rfl, _⟩ := u2.nat
      have eB := up16_B a2
      have eV := up16_V a2
      have i0 : IntKind.i64.wrap ((a2 : Int) % 65536) = (a2 : Int) % 65536 := wrap64 (by omega) (by omega)
      have i1 : IntKind.i64.wrap ((a2 : Int) / 65536 % 65536) = (a2 : Int) / 65536 % 65536 := wrap64 (by omega) (by omega)
      have i2 : IntKind.i64.wrap ((a2 : Int) / 4294967296 % 65536) = (a2 : Int) / 4294967296 % 65536 := wrap64 (by omega) (by omega)
      simp (config := { maxSteps := 10000000 }) only [EV1, EV2, EV3, EV4, EV5, EV6, addT, istep, pickR, putD, bin1R, un1R, slcR, bnd, capsOf, fillP, V.plain, V.cells, V.known, C.v, blk, setL, setH, eqS, eq1, cmpS, cmp1, isNil, popTo, killT, setT, leT, V.below, S.below, R.below, V.val, C.val, S.val, R.val, R.takes, vals, shows, unnamed, V.kill, V.names, C.names, S.names, R.names, List.set, List.replicate, ↓q_cond_t, ↓q_cond_f, if_true, if_false, reduceCtorEq, rvals, rvC, result, C.known, V.noL, C.noL, S.noL, R.noL, Option.map, true_and, and_true, ge_iff_le, gt_iff_lt, implies_true, q_ite_t, q_ite_f, beq_iff_eq, bne_iff_ne, q_ne, Nat.reduceAdd, Nat.reducePow, Int.reducePow, Nat.reduceMul, Nat.reduceSub, Nat.reduceLeDiff, Nat.reduceLT, Nat.reduceEqDiff, Int.reduceNeg, Int.reduceLT, Int.reduceLE, Int.reduceEq, Int.reduceNe, Int.reduceAdd, Int.reduceSub, Int.reduceMul, Int.reduceToNat, Int.reduceBEq, Int.reduceBNe, df43, TGt, sthereG, memF_eq H, sthereM, setM_self H, ht, put, fillP, sub, List.take_succ_cons, List.take_zero, List.drop_zero]
      rw [holds_loop]
      refine swp_loop fun X hX => ?_
      refine hX _ ?_
      refine run_sound (Tab.ok_Γ _) 200 _ _ _ _ ?_
      simp (config := { maxSteps := 10000000 }) only [EV1, EV2, EV3, EV4, EV5, EV6, addT, istep, pickR, putD, bin1R, un1R, slcR, bnd, capsOf, fillP, V.plain, V.cells, V.known, C.v, blk, setL, setH, eqS, eq1, cmpS, cmp1, isNil, popTo, killT, setT, leT, V.below, S.below, R.below, V.val, C.val, S.val, R.val, R.takes, vals, shows, unnamed, V.kill, V.names, C.names, S.names, R.names, List.set, List.replicate, ↓q_cond_t, ↓q_cond_f, if_true, if_false, reduceCtorEq, rvals, rvC, result, C.known, V.noL, C.noL, S.noL, R.noL, Option.map, true_and, and_true, ge_iff_le, gt_iff_lt, implies_true, q_ite_t, q_ite_f, beq_iff_eq, bne_iff_ne, q_ne, Nat.reduceAdd, Nat.reducePow, Int.reducePow, Nat.reduceMul, Nat.reduceSub, Nat.reduceLeDiff, Nat.reduceLT, Nat.reduceEqDiff, Int.reduceNeg, Int.reduceLT, Int.reduceLE, Int.reduceEq, Int.reduceNe, Int.reduceAdd, Int.reduceSub, Int.reduceMul, Int.reduceToNat, Int.reduceBEq, Int.reduceBNe, TGt, readG, memF_eq H, memF_set H, readM, h0, h1, h2, h3, w0, w1, w2, w3, v1, v2, v3, v4, e0, e1, e2, e3, M.at_tick, M.tick_has, M.tick_tick, put, setM_fun H]
      refine hX _ ?_
      refine run_sound (Tab.ok_Γ _) 200 _ _ _ _ ?_
      simp (config := { maxSteps := 10000000 }) only [EV1, EV2, EV3, EV4, EV5, EV6, addT, istep, pickR, putD, bin1R, un1R, slcR, bnd, capsOf, fillP, V.plain, V.cells, V.known, C.v, blk, setL, setH, eqS, eq1, cmpS, cmp1, isNil, popTo, killT, setT, leT, V.below, S.below, R.below, V.val, C.val, S.val, R.val, R.takes, vals, shows, unnamed, V.kill, V.names, C.names, S.names, R.names, List.set, List.replicate, ↓q_cond_t, ↓q_cond_f, if_true, if_false, reduceCtorEq, rvals, rvC, result, C.known, V.noL, C.noL, S.noL, R.noL, Option.map, true_and, and_true, ge_iff_le, gt_iff_lt, implies_true, q_ite_t, q_ite_f, beq_iff_eq, bne_iff_ne, q_ne, Nat.reduceAdd, Nat.reducePow, Int.reducePow, Nat.reduceMul, Nat.reduceSub, Nat.reduceLeDiff, Nat.reduceLT, Nat.reduceEqDiff, Int.reduceNeg, Int.reduceLT, Int.reduceLE, Int.reduceEq, Int.reduceNe, Int.reduceAdd, Int.reduceSub, Int.reduceMul, Int.reduceToNat, Int.reduceBEq, Int.reduceBNe, TGt, readG, memF_eq H, memF_set H, readM, h0, h1, h2, h3, w0, w1, w2, w3, v1, v2, v3, v4, e0, e1, e2, e3, M.at_tick, M.tick_has, M.tick_tick, put, setM_fun H]
      refine hX _ ?_
      refine run_sound (Tab.ok_Γ _) 200 _ _ _ _ ?_
      simp (config := { maxSteps := 10000000 }) only [EV1, EV2, EV3, EV4, EV5, EV6, addT, istep, pickR, putD, bin1R, un1R, slcR, bnd, capsOf, fillP, V.plain, V.cells, V.known, C.v, blk, setL, setH, eqS, eq1, cmpS, cmp1, isNil, popTo, killT, setT, leT, V.below, S.below, R.below, V.val, C.val, S.val, R.val, R.takes, vals, shows, unnamed, V.kill, V.names, C.names, S.names, R.names, List.set, List.replicate, ↓q_cond_t, ↓q_cond_f, if_true, if_false, reduceCtorEq, rvals, rvC, result, C.known, V.noL, C.noL, S.noL, R.noL, Option.map, true_and, and_true, ge_iff_le, gt_iff_lt, implies_true, q_ite_t, q_ite_f, beq_iff_eq, bne_iff_ne, q_ne, Nat.reduceAdd, Nat.reducePow, Int.reducePow, Nat.reduceMul, Nat.reduceSub, Nat.reduceLeDiff, Nat.reduceLT, Nat.reduceEqDiff, Int.reduceNeg, Int.reduceLT, Int.reduceLE, Int.reduceEq, Int.reduceNe, Int.reduceAdd, Int.reduceSub, Int.reduceMul, Int.reduceToNat, Int.reduceBEq, Int.reduceBNe, TGt, readG, memF_eq H, memF_set H, readM, h0, h1, h2, h3, w0, w1, w2, w3, v1, v2, v3, v4, e0, e1, e2, e3, M.at_tick, M.tick_has, M.tick_tick, put, setM_fun H]
      refine hX _ ?_
      refine run_sound (Tab.ok_Γ _) 200 _ _ _ _ ?_
      simp (config := { maxSteps := 10000000 }) only [EV1, EV2, EV3, EV4, EV5, EV6, addT, istep, pickR, putD, bin1R, un1R, slcR, bnd, capsOf, fillP, V.plain, V.cells, V.known, C.v, blk, setL, setH, eqS, eq1, cmpS, cmp1, isNil, popTo, killT, setT, leT, V.below, S.below, R.below, V.val, C.val, S.val, R.val, R.takes, vals, shows, unnamed, V.kill, V.names, C.names, S.names, R.names, List.set, List.replicate, ↓q_cond_t, ↓q_cond_f, if_true, if_false, reduceCtorEq, rvals, rvC, result, C.known, V.noL, C.noL, S.noL, R.noL, Option.map, true_and, and_true, ge_iff_le, gt_iff_lt, implies_true, q_ite_t, q_ite_f, beq_iff_eq, bne_iff_ne, q_ne, Nat.reduceAdd, Nat.reducePow, Int.reducePow, Nat.reduceMul, Nat.reduceSub, Nat.reduceLeDiff, Nat.reduceLT, Nat.reduceEqDiff, Int.reduceNeg, Int.reduceLT, Int.reduceLE, Int.reduceEq, Int.reduceNe, Int.reduceAdd, Int.reduceSub, Int.reduceMul, Int.reduceToNat, Int.reduceBEq, Int.reduceBNe, TGt, readG, memF_eq H, memF_set H, readM, h0, h1, h2, h3, w0, w1, w2, w3, v1, v2, v3, v4, e0, e1, e2, e3, M.at_tick, M.tick_has, M.tick_tick, put, setM_fun H]
      refine hX _ ?_
      cases hd : decB a0 a1 with
      | false =>
        have hS := hS.2 (by simp only [slotB, hd, Bool.false_and])
        by_cases c2 : (a2 : Int) / 281474976710656 = 0
        · refine run_sound (Tab.ok_Γ _) 400 _ _ _ _ ?_
          simp (config := { maxSteps := 10000000 }) only [EV1, EV2, EV3, EV4, EV5, EV6, addT, istep, pickR, putD, bin1R, un1R, slcR, bnd, capsOf, fillP, V.plain, V.cells, V.known, C.v, blk, setL, setH, eqS, eq1, cmpS, cmp1, isNil, popTo, killT, setT, leT, V.below, S.below, R.below, V.val, C.val, S.val, R.val, R.takes, vals, shows, unnamed, V.kill, V.names, C.names, S.names, R.names, List.set, List.replicate, ↓q_cond_t, ↓q_cond_f, if_true, if_false, reduceCtorEq, rvals, rvC, result, C.known, V.noL, C.noL, S.noL, R.noL, Option.map, true_and, and_true, ge_iff_le, gt_iff_lt, implies_true, q_ite_t, q_ite_f, beq_iff_eq, bne_iff_ne, q_ne, Nat.reduceAdd, Nat.reducePow, Int.reducePow, Nat.reduceMul, Nat.reduceSub, Nat.reduceLeDiff, Nat.reduceLT, Nat.reduceEqDiff, Int.reduceNeg, Int.reduceLT, Int.reduceLE, Int.reduceEq, Int.reduceNe, Int.reduceAdd, Int.reduceSub, Int.reduceMul, Int.reduceToNat, Int.reduceBEq, Int.reduceBNe, TGt, readG, memF_eq H, memF_set H, readM, h0, h1, h2, h3, w0, w1, w2, w3, v1, v2, v3, v4, e0, e1, e2, e3, M.at_tick, M.tick_has, M.tick_tick, put, setM_fun H, decG, unpackG, wordsR, pairV, R.lend, R.unlend, S.ren, C.ren, V.ren, Blk.ren, take_app, drop_app, Nat.not_lt_zero, Nat.lt_irrefl, Nat.add_sub_cancel_left, Nat.not_lt, Nat.le_add_right, decI, arr, Ic, Uc, List.take, eB, eV, u0, u1, u2, hd, c2, capZ, Cap.cl, fillP, nlt, hcm, sub, List.take_succ_cons, List.take_zero, List.drop_zero, List.map_cons, List.map_nil]
          first | exact hS | exact fun _ _ => hS
        · refine run_sound (Tab.ok_Γ _) 400 _ _ _ _ ?_
          simp (config := { maxSteps := 10000000 }) only [EV1, EV2, EV3, EV4, EV5, EV6, addT, istep, pickR, putD, bin1R, un1R, slcR, bnd, capsOf, fillP, V.plain, V.cells, V.known, C.v, blk, setL, setH, eqS, eq1, cmpS, cmp1, isNil, popTo, killT, setT, leT, V.below, S.below, R.below, V.val, C.val, S.val, R.val, R.takes, vals, shows, unnamed, V.kill, V.names, C.names, S.names, R.names, List.set, List.replicate, ↓q_cond_t, ↓q_cond_f, if_true, if_false, reduceCtorEq, rvals, rvC, result, C.known, V.noL, C.noL, S.noL, R.noL, Option.map, true_and, and_true, ge_iff_le, gt_iff_lt, implies_true, q_ite_t, q_ite_f, beq_iff_eq, bne_iff_ne, q_ne, Nat.reduceAdd, Nat.reducePow, Int.reducePow, Nat.reduceMul, Nat.reduceSub, Nat.reduceLeDiff, Nat.reduceLT, Nat.reduceEqDiff, Int.reduceNeg, Int.reduceLT, Int.reduceLE, Int.reduceEq, Int.reduceNe, Int.reduceAdd, Int.reduceSub, Int.reduceMul, Int.reduceToNat, Int.reduceBEq, Int.reduceBNe, TGt, readG, memF_eq H, memF_set H, readM, h0, h1, h2, h3, w0, w1, w2, w3, v1, v2, v3, v4, e0, e1, e2, e3, M.at_tick, M.tick_has, M.tick_tick, put, setM_fun H, decG, unpackG, wordsR, pairV, R.lend, R.unlend, S.ren, C.ren, V.ren, Blk.ren, take_app, drop_app, Nat.not_lt_zero, Nat.lt_irrefl, Nat.add_sub_cancel_left, Nat.not_lt, Nat.le_add_right, decI, arr, Ic, Uc, List.take, eB, eV, u0, u1, u2, hd, c2, capZ, Cap.cl, fillP, nlt, hcm, sub, List.take_succ_cons, List.take_zero, List.drop_zero]
          first | exact hS | exact fun _ _ => hS
      | true =>
        by_cases c2 : (a2 : Int) / 281474976710656 = 0
        · by_cases c3 : a3 = 0
          · cases hr : slotRB (slotC a0 a1 a2) with
            | false =>
              have hS := hS.2 (by simp only [slotB, hd, hr, Bool.and_false])
              simp only [slotC] at hr
              refine run_sound (Tab.ok_Γ _) 400 _ _ _ _ ?_
              simp (config := { maxSteps := 10000000 }) only [EV1, EV2, EV3, EV4, EV5, EV6, addT, istep, pickR, putD, bin1R, un1R, slcR, bnd, capsOf, fillP, V.plain, V.cells, V.known, C.v, blk, setL, setH, eqS, eq1, cmpS, cmp1, isNil, popTo, killT, setT, leT, V.below, S.below, R.below, V.val, C.val, S.val, R.val, R.takes, vals, shows, unnamed, V.kill, V.names, C.names, S.names, R.names, List.set, List.replicate, ↓q_cond_t, ↓q_cond_f, if_true, if_false, reduceCtorEq, rvals, rvC, result, C.known, V.noL, C.noL, S.noL, R.noL, Option.map, true_and, and_true, ge_iff_le, gt_iff_lt, implies_true, q_ite_t, q_ite_f, beq_iff_eq, bne_iff_ne, q_ne, Nat.reduceAdd, Nat.reducePow, Int.reducePow, Nat.reduceMul, Nat.reduceSub, Nat.reduceLeDiff, Nat.reduceLT, Nat.reduceEqDiff, Int.reduceNeg, Int.reduceLT, Int.reduceLE, Int.reduceEq, Int.reduceNe, Int.reduceAdd, Int.reduceSub, Int.reduceMul, Int.reduceToNat, Int.reduceBEq, Int.reduceBNe, TGt, readG, memF_eq H, memF_set H, readM, h0, h1, h2, h3, w0, w1, w2, w3, v1, v2, v3, v4, e0, e1, e2, e3, M.at_tick, M.tick_has, M.tick_tick, put, setM_fun H, decG, unpackG, wordsR, pairV, slotRG, slotF, cap_eta, R.lend, R.unlend, S.ren, C.ren, V.ren, Blk.ren, take_app, drop_app, Nat.not_lt_zero, Nat.lt_irrefl, Nat.add_sub_cancel_left, Nat.not_lt, Nat.le_add_right, decI, arr, Ic, Uc, List.take, eB, eV, u0, u1, u2, hd, c2, c3, hr, i0, i1, i2, capZ, Cap.cl, fillP, nlt, hcm, sub, List.take_succ_cons, List.take_zero, List.drop_zero]
              first | exact hS | exact fun _ _ => hS
            | true =>
              have hS := hS.1 (by simp only [slotB, hd, c2, c3, hr, decide_true, beq_self_eq_true, Bool.and_true])
              simp only [slotC] at hr
              simp only [slotC, Slot.cl] at hS
              refine run_sound (Tab.ok_Γ _) 400 _ _ _ _ ?_
              simp (config := { maxSteps := 10000000 }) only [EV1, EV2, EV3, EV4, EV5, EV6, addT, istep, pickR, putD, bin1R, un1R, slcR, bnd, capsOf, fillP, V.plain, V.cells, V.known, C.v, blk, setL, setH, eqS, eq1, cmpS, cmp1, isNil, popTo, killT, setT, leT, V.below, S.below, R.below, V.val, C.val, S.val, R.val, R.takes, vals, shows, unnamed, V.kill, V.names, C.names, S.names, R.names, List.set, List.replicate, ↓q_cond_t, ↓q_cond_f, if_true, if_false, reduceCtorEq, rvals, rvC, result, C.known, V.noL, C.noL, S.noL, R.noL, Option.map, true_and, and_true, ge_iff_le, gt_iff_lt, implies_true, q_ite_t, q_ite_f, beq_iff_eq, bne_iff_ne, q_ne, Nat.reduceAdd, Nat.reducePow, Int.reducePow, Nat.reduceMul, Nat.reduceSub, Nat.reduceLeDiff, Nat.reduceLT, Nat.reduceEqDiff, Int.reduceNeg, Int.reduceLT, Int.reduceLE, Int.reduceEq, Int.reduceNe, Int.reduceAdd, Int.reduceSub, Int.reduceMul, Int.reduceToNat, Int.reduceBEq, Int.reduceBNe, TGt, readG, memF_eq H, memF_set H, readM, h0, h1, h2, h3, w0, w1, w2, w3, v1, v2, v3, v4, e0, e1, e2, e3, M.at_tick, M.tick_has, M.tick_tick, put, setM_fun H, decG, unpackG, wordsR, pairV, slotRG, slotF, cap_eta, R.lend, R.unlend, S.ren, C.ren, V.ren, Blk.ren, take_app, drop_app, Nat.not_lt_zero, Nat.lt_irrefl, Nat.add_sub_cancel_left, Nat.not_lt, Nat.le_add_right, decI, arr, Ic, Uc, List.take, eB, eV, u0, u1, u2, hd, c2, c3, hr, i0, i1, i2, capZ, Cap.cl, fillP, nlt, hcm, sub, List.take_succ_cons, List.take_zero, List.drop_zero]
              first | exact hS | exact fun _ _ => hS
          · have hS := hS.2 (by simp [slotB, c3])
            refine run_sound (Tab.ok_Γ _) 400 _ _ _ _ ?_
            simp (config := { maxSteps := 10000000 }) only [EV1, EV2, EV3, EV4, EV5, EV6, addT, istep, pickR, putD, bin1R, un1R, slcR, bnd, capsOf, fillP, V.plain, V.cells, V.known, C.v, blk, setL, setH, eqS, eq1, cmpS, cmp1, isNil, popTo, killT, setT, leT, V.below, S.below, R.below, V.val, C.val, S.val, R.val, R.takes, vals, shows, unnamed, V.kill, V.names, C.names, S.names, R.names, List.set, List.replicate, ↓q_cond_t, ↓q_cond_f, if_true, if_false, reduceCtorEq, rvals, rvC, result, C.known, V.noL, C.noL, S.noL, R.noL, Option.map, true_and, and_true, ge_iff_le, gt_iff_lt, implies_true, q_ite_t, q_ite_f, beq_iff_eq, bne_iff_ne, q_ne, Nat.reduceAdd, Nat.reducePow, Int.reducePow, Nat.reduceMul, Nat.reduceSub, Nat.reduceLeDiff, Nat.reduceLT, Nat.reduceEqDiff, Int.reduceNeg, Int.reduceLT, Int.reduceLE, Int.reduceEq, Int.reduceNe, Int.reduceAdd, Int.reduceSub, Int.reduceMul, Int.reduceToNat, Int.reduceBEq, Int.reduceBNe, TGt, readG, memF_eq H, memF_set H, readM, h0, h1, h2, h3, w0, w1, w2, w3, v1, v2, v3, v4, e0, e1, e2, e3, M.at_tick, M.tick_has, M.tick_tick, put, setM_fun H, decG, unpackG, wordsR, pairV, slotRG, slotF, cap_eta, R.lend, R.unlend, S.ren, C.ren, V.ren, Blk.ren, take_app, drop_app, Nat.not_lt_zero, Nat.lt_irrefl, Nat.add_sub_cancel_left, Nat.not_lt, Nat.le_add_right, decI, arr, Ic, Uc, List.take, eB, eV, u0, u1, u2, hd, c2, c3, i0, i1, i2, capZ, Cap.cl, fillP, nlt, hcm, sub, List.take_succ_cons, List.take_zero, List.drop_zero]
            first | exact hS | exact fun _ _ => hS
        · have hS := hS.2 (by simp [slotB, c2])
          refine run_sound (Tab.ok_Γ _) 400 _ _ _ _ ?_
          simp (config := { maxSteps := 10000000 }) only [EV1, EV2, EV3, EV4, EV5, EV6, addT, istep, pickR, putD, bin1R, un1R, slcR, bnd, capsOf, fillP, V.plain, V.cells, V.known, C.v, blk, setL, setH, eqS, eq1, cmpS, cmp1, isNil, popTo, killT, setT, leT, V.below, S.below, R.below, V.val, C.val, S.val, R.val, R.takes, vals, shows, unnamed, V.kill, V.names, C.names, S.names, R.names, List.set, List.replicate, ↓q_cond_t, ↓q_cond_f, if_true, if_false, reduceCtorEq, rvals, rvC, result, C.known, V.noL, C.noL, S.noL, R.noL, Option.map, true_and, and_true, ge_iff_le, gt_iff_lt, implies_true, q_ite_t, q_ite_f, beq_iff_eq, bne_iff_ne, q_ne, Nat.reduceAdd, Nat.reducePow, Int.reducePow, Nat.reduceMul, Nat.reduceSub, Nat.reduceLeDiff, Nat.reduceLT, Nat.reduceEqDiff, Int.reduceNeg, Int.reduceLT, Int.reduceLE, Int.reduceEq, Int.reduceNe, Int.reduceAdd, Int.reduceSub, Int.reduceMul, Int.reduceToNat, Int.reduceBEq, Int.reduceBNe, TGt, readG, memF_eq H, memF_set H, readM, h0, h1, h2, h3, w0, w1, w2, w3, v1, v2, v3, v4, e0, e1, e2, e3, M.at_tick, M.tick_has, M.tick_tick, put, setM_fun H, decG, unpackG, wordsR, pairV, R.lend, R.unlend, S.ren, C.ren, V.ren, Blk.ren, take_app, drop_app, Nat.not_lt_zero, Nat.lt_irrefl, Nat.add_sub_cancel_left, Nat.not_lt, Nat.le_add_right, decI, arr, Ic, Uc, List.take, eB, eV, u0, u1, u2, hd, c2, capZ, Cap.cl, fillP, nlt, hcm, sub, List.take_succ_cons, List.take_zero, List.drop_zero]
          first | exact hS | exact fun _ _ => hS
  · exact hS.elim
end Go.Proofs.Ythegocjfnjfkdaa

/- Package slots: the document's Get, Put, Empty. -/
namespace Go.Proofs.Ythegocjfnjfkdaa
open Go.D
set_option linter.all false
set_option maxRecDepth 100000
set_option maxHeartbeats 4000000

noncomputable def TGr : Tab := addT 93 sthereG (addT 95 readG (addT 20 decG (addT 79 slotRG (addT 18 encG (addT 94 writeG noT)))))
theorem TGr_snd : TGr.Snd Try.prog := addT_snd ok93 rat_snd (addT_snd ok95 rread_snd (addT_snd ok20 rdec_snd (addT_snd ok79 rslotR_snd (addT_snd ok18 renc_snd (addT_snd ok94 rwrite_snd (noT_snd _))))))
theorem min16 : min 16 IntKind.u64.bits = 16 := rfl
theorem min32 : min 32 IntKind.u64.bits = 32 := rfl
theorem rgetS_snd : Snd Try.prog 81 (FSpec.of getSG) := snd_run TGr_snd mixed Try.func81 dc81 300 fun args h K hc hS => by
  obtain ⟨a, b, m, rest, rfl, H, hS1⟩ := memF_spec hS
  clear hS
  have hS := hS1
  clear hS1
  unfold getSM at hS
  split at hS
  · rename_i x
    simp only [spec_ok, spec_br, setM_self H] at hS
    have hl := m.l
    cases ht : thereB m x with
    | false =>
      have hS := hS.2 ht
      simp (config := { maxSteps := 10000000 }) only [EV1, EV2, EV3, EV4, EV5, EV6, addT, istep, pickR, putD, bin1R, un1R, slcR, bnd, capsOf, fillP, V.plain, V.cells, V.known, C.v, blk, setL, setH, eqS, eq1, cmpS, cmp1, isNil, popTo, killT, setT, leT, V.below, S.below, R.below, V.val, C.val, S.val, R.val, R.takes, vals, shows, unnamed, V.kill, V.names, C.names, S.names, R.names, List.set, List.replicate, ↓q_cond_t, ↓q_cond_f, if_true, if_false, reduceCtorEq, rvals, rvC, result, C.known, V.noL, C.noL, S.noL, R.noL, Option.map, true_and, and_true, ge_iff_le, gt_iff_lt, implies_true, q_ite_t, q_ite_f, beq_iff_eq, bne_iff_ne, q_ne, Nat.reduceAdd, Nat.reducePow, Int.reducePow, Nat.reduceMul, Nat.reduceSub, Nat.reduceLeDiff, Nat.reduceLT, Nat.reduceEqDiff, Int.reduceNeg, Int.reduceLT, Int.reduceLE, Int.reduceEq, Int.reduceNe, Int.reduceAdd, Int.reduceSub, Int.reduceMul, Int.reduceToNat, Int.reduceBEq, Int.reduceBNe, df81, TGr, sthereG, memF_eq H, sthereM, setM_self H, ht, put, fillP, sub, List.take_succ_cons, List.take_zero, List.drop_zero]
      exact hS
    | true =>
      have hS := hS.1 ht
      have hb := there_iff.1 ht
      have h0 : m.has x 1 = true := M.has_of (by omega)
      have h1 : m.has (x + 1) 1 = true := M.has_of (by omega)
      have h2 : m.has (x + 2) 1 = true := M.has_of (by omega)
      have h3 : m.has (x + 3) 1 = true := M.has_of (by omega)
      have w1 : IntKind.i64.wrap (x + 1) = x + 1 := wrap64 (by omega) (by omega)
      have w2 : IntKind.i64.wrap (x + 2) = x + 2 := wrap64 (by omega) (by omega)
      have w3 : IntKind.i64.wrap (x + 3) = x + 3 := wrap64 (by omega) (by omega)
      have u0 := m.at_u x
      have u1 := m.at_u (x + 1)
      have u2 := m.at_u (x + 2)
      simp only [M.slotB, M.slotC] at hS
      obtain ⟨a0, e0⟩ : ∃ a, m.at x = a := ⟨_, rfl⟩
      obtain ⟨a1, e1⟩ : ∃ a, m.at (x + 1) = a := ⟨_, rfl⟩
      obtain ⟨a2, e2⟩ : ∃ a, m.at (x + 2) = a := ⟨_, rfl⟩
      obtain ⟨a3, e3⟩ : ∃ a, m.at (x + 3) = a := ⟨_, rfl⟩
      rw [e0] at u0 hS
      rw [e1] at u1 hS
      rw [e2] at u2 hS
      rw [e3] at hS
      obtain ⟨a2, rfl, _⟩ := u2.nat
      have t0 : ((a2 : Int)).tmod 65536 = (a2 : Int) % 65536 := Int.tmod_eq_emod_of_nonneg (by omega)
      have t1 : ((a2 : Int) / 65536).tmod 65536 = (a2 : Int) / 65536 % 65536 := Int.tmod_eq_emod_of_nonneg (by omega)
      have t2 : ((a2 : Int) / 4294967296).tmod 65536 = (a2 : Int) / 4294967296 % 65536 := Int.tmod_eq_emod_of_nonneg (by omega)
      have i0 : IntKind.i64.wrap ((a2 : Int) % 65536) = (a2 : Int) % 65536 := wrap64 (by omega) (by omega)
      have i1 : IntKind.i64.wrap ((a2 : Int) / 65536 % 65536) = (a2 : Int) / 65536 % 65536 := wrap64 (by omega) (by omega)
      have i2 : IntKind.i64.wrap ((a2 : Int) / 4294967296 % 65536) = (a2 : Int) / 4294967296 % 65536 := wrap64 (by omega) (by omega)
      have c2 : (281474976710656 ≤ (a2 : Int)) = ¬ ((a2 : Int) / 281474976710656 = 0) := propext (by omega)
      cases hd : decB a0 a1 with
      | false =>
        have hS := hS.2 (by simp only [slotB, hd, Bool.false_and])
        cases hr : slotRB ⟨capZ, (a2 : Int) % 65536, (a2 : Int) / 65536 % 65536, (a2 : Int) / 4294967296 % 65536⟩
        all_goals simp only [capZ] at hr
        all_goals simp (config := { maxSteps := 10000000 }) only [EV1, EV2, EV3, EV4, EV5, EV6, addT, istep, pickR, putD, bin1R, un1R, slcR, bnd, capsOf, fillP, V.plain, V.cells, V.known, C.v, blk, setL, setH, eqS, eq1, cmpS, cmp1, isNil, popTo, killT, setT, leT, V.below, S.below, R.below, V.val, C.val, S.val, R.val, R.takes, vals, shows, unnamed, V.kill, V.names, C.names, S.names, R.names, List.set, List.replicate, ↓q_cond_t, ↓q_cond_f, if_true, if_false, reduceCtorEq, rvals, rvC, result, C.known, V.noL, C.noL, S.noL, R.noL, Option.map, true_and, and_true, ge_iff_le, gt_iff_lt, implies_true, q_ite_t, q_ite_f, beq_iff_eq, bne_iff_ne, q_ne, Nat.reduceAdd, Nat.reducePow, Int.reducePow, Nat.reduceMul, Nat.reduceSub, Nat.reduceLeDiff, Nat.reduceLT, Nat.reduceEqDiff, Int.reduceNeg, Int.reduceLT, Int.reduceLE, Int.reduceEq, Int.reduceNe, Int.reduceAdd, Int.reduceSub, Int.reduceMul, Int.reduceToNat, Int.reduceBEq, Int.reduceBNe, df81, TGr, sthereG, memF_eq H, memF_set H, sthereM, setM_self H, setM_fun H, ht, readG, readM, h0, h1, h2, h3, w1, w2, w3, e0, e1, e2, e3, M.at_tick, M.tick_has, M.tick_tick, decG, slotRG, slotF, cap_eta, u0, u1, u2, t0, t1, t2, i0, i1, i2, hd, hr, min16, min32, capZ, Cap.cl, put, fillP, sub, List.take_succ_cons, List.take_zero, List.drop_zero]
        all_goals exact hS
      | true =>
        by_cases hx : slotB a0 a1 a2 a3 = true
        · have hS := hS.1 hx
          simp only [slotB, hd, Bool.true_and, Bool.and_eq_true, decide_eq_true_eq, beq_iff_eq] at hx
          obtain ⟨c3, c4, hr⟩ := hx
          simp only [slotC] at hr
          simp only [slotC, Slot.cl] at hS
          simp (config := { maxSteps := 10000000 }) only [EV1, EV2, EV3, EV4, EV5, EV6, addT, istep, pickR, putD, bin1R, un1R, slcR, bnd, capsOf, fillP, V.plain, V.cells, V.known, C.v, blk, setL, setH, eqS, eq1, cmpS, cmp1, isNil, popTo, killT, setT, leT, V.below, S.below, R.below, V.val, C.val, S.val, R.val, R.takes, vals, shows, unnamed, V.kill, V.names, C.names, S.names, R.names, List.set, List.replicate, ↓q_cond_t, ↓q_cond_f, if_true, if_false, reduceCtorEq, rvals, rvC, result, C.known, V.noL, C.noL, S.noL, R.noL, Option.map, true_and, and_true, ge_iff_le, gt_iff_lt, implies_true, q_ite_t, q_ite_f, beq_iff_eq, bne_iff_ne, q_ne, Nat.reduceAdd, Nat.reducePow, Int.reducePow, Nat.reduceMul, Nat.reduceSub, Nat.reduceLeDiff, Nat.reduceLT, Nat.reduceEqDiff, Int.reduceNeg, Int.reduceLT, Int.reduceLE, Int.reduceEq, Int.reduceNe, Int.reduceAdd, Int.reduceSub, Int.reduceMul, Int.reduceToNat, Int.reduceBEq, Int.reduceBNe, df81, TGr, sthereG, memF_eq H, memF_set H, sthereM, setM_self H, setM_fun H, ht, readG, readM, h0, h1, h2, h3, w1, w2, w3, e0, e1, e2, e3, M.at_tick, M.tick_has, M.tick_tick, decG, slotRG, slotF, cap_eta, u0, u1, u2, t0, t1, t2, i0, i1, i2, hd, hr, c2, c3, c4, min16, min32, capZ, Cap.cl, put, fillP, sub, List.take_succ_cons, List.take_zero, List.drop_zero]
          exact hS
        · have hS := hS.2 (by simpa using hx)
          by_cases c3 : (a2 : Int) / 281474976710656 = 0
          all_goals by_cases c4 : a3 = 0
          all_goals cases hr : slotRB (slotC a0 a1 a2)
          all_goals try (exfalso; apply hx; simp [slotB, hd, c3, c4, hr]; done)
          all_goals simp only [slotC] at hr
          all_goals simp (config := { maxSteps := 10000000 }) only [EV1, EV2, EV3, EV4, EV5, EV6, addT, istep, pickR, putD, bin1R, un1R, slcR, bnd, capsOf, fillP, V.plain, V.cells, V.known, C.v, blk, setL, setH, eqS, eq1, cmpS, cmp1, isNil, popTo, killT, setT, leT, V.below, S.below, R.below, V.val, C.val, S.val, R.val, R.takes, vals, shows, unnamed, V.kill, V.names, C.names, S.names, R.names, List.set, List.replicate, ↓q_cond_t, ↓q_cond_f, if_true, if_false, reduceCtorEq, rvals, rvC, result, C.known, V.noL, C.noL, S.noL, R.noL, Option.map, true_and, and_true, ge_iff_le, gt_iff_lt, implies_true, q_ite_t, q_ite_f, beq_iff_eq, bne_iff_ne, q_ne, Nat.reduceAdd, Nat.reducePow, Int.reducePow, Nat.reduceMul, Nat.reduceSub, Nat.reduceLeDiff, Nat.reduceLT, Nat.reduceEqDiff, Int.reduceNeg, Int.reduceLT, Int.reduceLE, Int.reduceEq, Int.reduceNe, Int.reduceAdd, Int.reduceSub, Int.reduceMul, Int.reduceToNat, Int.reduceBEq, Int.reduceBNe, df81, TGr, sthereG, memF_eq H, memF_set H, sthereM, setM_self H, setM_fun H, ht, readG, readM, h0, h1, h2, h3, w1, w2, w3, e0, e1, e2, e3, M.at_tick, M.tick_has, M.tick_tick, decG, slotRG, slotF, cap_eta, u0, u1, u2, t0, t1, t2, i0, i1, i2, hd, hr, c2, c3, c4, min16, min32, capZ, Cap.cl, put, fillP, sub, List.take_succ_cons, List.take_zero, List.drop_zero]
          all_goals exact hS
  · exact hS.elim

/-! ### Empty -/
def emptySM (b : Nat) (m : M) (st : M → List Blk) : List V → Res
  | [.s (.i .i64 a)] => .br (thereB m a) (.br (m.slotB a) (.ok (.tup [.s (.b (m.slotC a).isZ), .s (.i .i64 0)]) [] (st (m.tick 4))) (.ok (.tup [.s (.b false), .s (.i .i64 110)]) [] (st (m.tick 4))))
      (.ok (.tup [.s (.b false), .s (.i .i64 20)]) [] (st m))
  | _ => .bad
noncomputable def emptySG := memF emptySM
noncomputable def TEm : Tab := addT 43 getSG (addT 81 getSG noT)
theorem TEm_snd : TEm.Snd Try.prog := addT_snd ok43 getS_snd (addT_snd ok81 rgetS_snd (noT_snd _))
/-- A slot that may be, of no cap, is the empty one. -/
theorem slot_null {s : Slot} (h : slotRB s = true) : (s.cap.ty == 0) = s.isZ := by
  cases hz : s.isZ with
  | true => rw [Slot.isZ_iff.1 hz]; rfl
  | false =>
    simp only [slotRB, hz, Bool.not_false, Bool.and_true, Bool.and_eq_true, Bool.not_eq_true'] at h
    exact h.1
theorem emptyS_snd : Snd Try.prog 67 (FSpec.of emptySG) := snd_run TEm_snd mixed Try.func67 dc67 200 fun args h K hc hS => by
  obtain ⟨a, b, m, rest, rfl, H, hS1⟩ := memF_spec hS
  clear hS
  have hS := hS1
  clear hS1
  unfold emptySM at hS
  split at hS
  · rename_i x
    simp only [spec_ok, spec_br, setM_self H] at hS
    cases ht : thereB m x with
    | false =>
      have hS := hS.2 ht
      simp (config := { maxSteps := 10000000 }) only [EV1, EV2, EV3, EV4, EV5, EV6, addT, istep, pickR, putD, bin1R, un1R, slcR, bnd, capsOf, fillP, V.plain, V.cells, V.known, C.v, blk, setL, setH, eqS, eq1, cmpS, cmp1, isNil, popTo, killT, setT, leT, V.below, S.below, R.below, V.val, C.val, S.val, R.val, R.takes, vals, shows, unnamed, V.kill, V.names, C.names, S.names, R.names, List.set, List.replicate, ↓q_cond_t, ↓q_cond_f, if_true, if_false, reduceCtorEq, rvals, rvC, result, C.known, V.noL, C.noL, S.noL, R.noL, Option.map, true_and, and_true, ge_iff_le, gt_iff_lt, implies_true, q_ite_t, q_ite_f, beq_iff_eq, bne_iff_ne, q_ne, Nat.reduceAdd, Nat.reducePow, Int.reducePow, Nat.reduceMul, Nat.reduceSub, Nat.reduceLeDiff, Nat.reduceLT, Nat.reduceEqDiff, Int.reduceNeg, Int.reduceLT, Int.reduceLE, Int.reduceEq, Int.reduceNe, Int.reduceAdd, Int.reduceSub, Int.reduceMul, Int.reduceToNat, Int.reduceBEq, Int.reduceBNe, df67, TEm, getSG, memF_eq H, getSM, setM_self H, ht, slotZ, capZ, Slot.cl, put, fillP, sub, List.take_succ_cons, List.take_zero, List.drop_zero]
      exact hS
    | true =>
      have hS := hS.1 ht
      cases hb : m.slotB x with
      | false =>
        have hS := hS.2 hb
        simp (config := { maxSteps := 10000000 }) only [EV1, EV2, EV3, EV4, EV5, EV6, addT, istep, pickR, putD, bin1R, un1R, slcR, bnd, capsOf, fillP, V.plain, V.cells, V.known, C.v, blk, setL, setH, eqS, eq1, cmpS, cmp1, isNil, popTo, killT, setT, leT, V.below, S.below, R.below, V.val, C.val, S.val, R.val, R.takes, vals, shows, unnamed, V.kill, V.names, C.names, S.names, R.names, List.set, List.replicate, ↓q_cond_t, ↓q_cond_f, if_true, if_false, reduceCtorEq, rvals, rvC, result, C.known, V.noL, C.noL, S.noL, R.noL, Option.map, true_and, and_true, ge_iff_le, gt_iff_lt, implies_true, q_ite_t, q_ite_f, beq_iff_eq, bne_iff_ne, q_ne, Nat.reduceAdd, Nat.reducePow, Int.reducePow, Nat.reduceMul, Nat.reduceSub, Nat.reduceLeDiff, Nat.reduceLT, Nat.reduceEqDiff, Int.reduceNeg, Int.reduceLT, Int.reduceLE, Int.reduceEq, Int.reduceNe, Int.reduceAdd, Int.reduceSub, Int.reduceMul, Int.reduceToNat, Int.reduceBEq, Int.reduceBNe, df67, TEm, getSG, memF_eq H, getSM, setM_self H, ht, hb, slotZ, capZ, Slot.cl, put, fillP, sub, List.take_succ_cons, List.take_zero, List.drop_zero]
        exact hS
      | true =>
        have hS := hS.1 hb
        simp only [Slot.isZ] at hS
        simp (config := { maxSteps := 10000000 }) only [EV1, EV2, EV3, EV4, EV5, EV6, addT, istep, pickR, putD, bin1R, un1R, slcR, bnd, capsOf, fillP, V.plain, V.cells, V.known, C.v, blk, setL, setH, eqS, eq1, cmpS, cmp1, isNil, popTo, killT, setT, leT, V.below, S.below, R.below, V.val, C.val, S.val, R.val, R.takes, vals, shows, unnamed, V.kill, V.names, C.names, S.names, R.names, List.set, List.replicate, ↓q_cond_t, ↓q_cond_f, if_true, if_false, reduceCtorEq, rvals, rvC, result, C.known, V.noL, C.noL, S.noL, R.noL, Option.map, true_and, and_true, ge_iff_le, gt_iff_lt, implies_true, q_ite_t, q_ite_f, beq_iff_eq, bne_iff_ne, q_ne, Nat.reduceAdd, Nat.reducePow, Int.reducePow, Nat.reduceMul, Nat.reduceSub, Nat.reduceLeDiff, Nat.reduceLT, Nat.reduceEqDiff, Int.reduceNeg, Int.reduceLT, Int.reduceLE, Int.reduceEq, Int.reduceNe, Int.reduceAdd, Int.reduceSub, Int.reduceMul, Int.reduceToNat, Int.reduceBEq, Int.reduceBNe, df67, TEm, getSG, memF_eq H, getSM, setM_self H, ht, hb, slotZ, capZ, Slot.cl, put, fillP, sub, List.take_succ_cons, List.take_zero, List.drop_zero]
        exact hS
  · exact hS.elim
theorem remptyS_snd : Snd Try.prog 82 (FSpec.of emptySG) := snd_run TEm_snd mixed Try.func82 dc82 200 fun args h K hc hS => by
  obtain ⟨a, b, m, rest, rfl, H, hS1⟩ := memF_spec hS
  clear hS
  have hS := hS1
  clear hS1
  unfold emptySM at hS
  split at hS
  · rename_i x
    simp only [spec_ok, spec_br, setM_self H] at hS
    cases ht : thereB m x with
    | false =>
      have hS := hS.2 ht
      simp (config := { maxSteps := 10000000 }) only [EV1, EV2, EV3, EV4, EV5, EV6, addT, istep, pickR, putD, bin1R, un1R, slcR, bnd, capsOf, fillP, V.plain, V.cells, V.known, C.v, blk, setL, setH, eqS, eq1, cmpS, cmp1, isNil, popTo, killT, setT, leT, V.below, S.below, R.below, V.val, C.val, S.val, R.val, R.takes, vals, shows, unnamed, V.kill, V.names, C.names, S.names, R.names, List.set, List.replicate, ↓q_cond_t, ↓q_cond_f, if_true, if_false, reduceCtorEq, rvals, rvC, result, C.known, V.noL, C.noL, S.noL, R.noL, Option.map, true_and, and_true, ge_iff_le, gt_iff_lt, implies_true, q_ite_t, q_ite_f, beq_iff_eq, bne_iff_ne, q_ne, Nat.reduceAdd, Nat.reducePow, Int.reducePow, Nat.reduceMul, Nat.reduceSub, Nat.reduceLeDiff, Nat.reduceLT, Nat.reduceEqDiff, Int.reduceNeg, Int.reduceLT, Int.reduceLE, Int.reduceEq, Int.reduceNe, Int.reduceAdd, Int.reduceSub, Int.reduceMul, Int.reduceToNat, Int.reduceBEq, Int.reduceBNe, df82, TEm, getSG, memF_eq H, getSM, setM_self H, ht, slotZ, capZ, Slot.cl, put, fillP, sub, List.take_succ_cons, List.take_zero, List.drop_zero]
      exact hS
    | true =>
      have hS := hS.1 ht
      cases hb : m.slotB x with
      | false =>
        have hS := hS.2 hb
        simp (config := { maxSteps := 10000000 }) only [EV1, EV2, EV3, EV4, EV5, EV6, addT, istep, pickR, putD, bin1R, un1R, slcR, bnd, capsOf, fillP, V.plain, V.cells, V.known, C.v, blk, setL, setH, eqS, eq1, cmpS, cmp1, isNil, popTo, killT, setT, leT, V.below, S.below, R.below, V.val, C.val, S.val, R.val, R.takes, vals, shows, unnamed, V.kill, V.names, C.names, S.names, R.names, List.set, List.replicate, ↓q_cond_t, ↓q_cond_f, if_true, if_false, reduceCtorEq, rvals, rvC, result, C.known, V.noL, C.noL, S.noL, R.noL, Option.map, true_and, and_true, ge_iff_le, gt_iff_lt, implies_true, q_ite_t, q_ite_f, beq_iff_eq, bne_iff_ne, q_ne, Nat.reduceAdd, Nat.reducePow, Int.reducePow, Nat.reduceMul, Nat.reduceSub, Nat.reduceLeDiff, Nat.reduceLT, Nat.reduceEqDiff, Int.reduceNeg, Int.reduceLT, Int.reduceLE, Int.reduceEq, Int.reduceNe, Int.reduceAdd, Int.reduceSub, Int.reduceMul, Int.reduceToNat, Int.reduceBEq, Int.reduceBNe, df82, TEm, getSG, memF_eq H, getSM, setM_self H, ht, hb, slotZ, capZ, Slot.cl, put, fillP, sub, List.take_succ_cons, List.take_zero, List.drop_zero]
        exact hS
      | true =>
        have hS := hS.1 hb
        have hr : slotRB (m.slotC x) = true := by
          simp only [M.slotB, slotB, Bool.and_eq_true] at hb
          exact hb.2.2.2
        rw [← slot_null hr] at hS
        simp (config := { maxSteps := 10000000 }) only [EV1, EV2, EV3, EV4, EV5, EV6, addT, istep, pickR, putD, bin1R, un1R, slcR, bnd, capsOf, fillP, V.plain, V.cells, V.known, C.v, blk, setL, setH, eqS, eq1, cmpS, cmp1, isNil, popTo, killT, setT, leT, V.below, S.below, R.below, V.val, C.val, S.val, R.val, R.takes, vals, shows, unnamed, V.kill, V.names, C.names, S.names, R.names, List.set, List.replicate, ↓q_cond_t, ↓q_cond_f, if_true, if_false, reduceCtorEq, rvals, rvC, result, C.known, V.noL, C.noL, S.noL, R.noL, Option.map, true_and, and_true, ge_iff_le, gt_iff_lt, implies_true, q_ite_t, q_ite_f, beq_iff_eq, bne_iff_ne, q_ne, Nat.reduceAdd, Nat.reducePow, Int.reducePow, Nat.reduceMul, Nat.reduceSub, Nat.reduceLeDiff, Nat.reduceLT, Nat.reduceEqDiff, Int.reduceNeg, Int.reduceLT, Int.reduceLE, Int.reduceEq, Int.reduceNe, Int.reduceAdd, Int.reduceSub, Int.reduceMul, Int.reduceToNat, Int.reduceBEq, Int.reduceBNe, df82, TEm, getSG, memF_eq H, getSM, setM_self H, ht, hb, slotZ, capZ, Slot.cl, put, fillP, sub, List.take_succ_cons, List.take_zero, List.drop_zero]
        exact hS
  · exact hS.elim
end Go.Proofs.Ythegocjfnjfkdaa

/- Package slots: Put. -/
namespace Go.Proofs.Ythegocjfnjfkdaa
open Go.D
set_option linter.all false
set_option maxRecDepth 100000
set_option maxHeartbeats 4000000

theorem M.put_tick (m : M) (k : Int) (i : Nat) (x : Int) : (m.tick k).put i x = (m.put i x).tick k := rfl
def Slot.links (s : Slot) : Int := s.prev + 65536 * s.next + 4294967296 * s.depth
/-- A slot, put. -/
def M.putS (m : M) (a : Int) (s : Slot) : M := ((((m.put a.toNat s.cap.w0).put (a + 1).toNat s.cap.num).put (a + 2).toNat s.links).put (a + 3).toNat 0).tick 4
def putSM (b : Nat) (m : M) (st : M → List Blk) : List V → Res
  | [.s (.i .i64 a), x] => slotF (fun s => .br (thereB m a) (.br (slotRB s) (.ok (.s (.i .i64 0)) [] (st (m.putS a s))) (.ok (.s (.i .i64 110)) [] (st m))) (.ok (.s (.i .i64 20)) [] (st m))) [x]
  | _ => .bad
noncomputable def putSG := memF putSM
theorem putSM_spec {b : Nat} {m : M} {st : M → List Blk} {args : List V} {K : V → List Blk → Prop} (h : (putSM b m st args).spec K) :
    ∃ a s, args = [.s (.i .i64 a), .agg s.cl] ∧ (thereB m a = false → K (.s (.i .i64 20)) (st m)) ∧ (thereB m a = true → slotRB s = false → K (.s (.i .i64 110)) (st m)) ∧ (thereB m a = true → slotRB s = true → K (.s (.i .i64 0)) (st (m.putS a s))) := by
  unfold putSM at h
  split at h
  · rename_i a x
    obtain ⟨s, e, h⟩ := slotF_spec h
    simp only [List.cons.injEq, and_true] at e
    subst e
    have h : (thereB m a = true → (slotRB s = true → K _ _) ∧ (slotRB s = false → K _ _)) ∧ (thereB m a = false → K _ _) := h
    exact ⟨a, s, rfl, h.2, fun e => (h.1 e).2, fun e => (h.1 e).1⟩
  · exact h.elim

def pfldG : List V → List Blk → Res
  | [.s (.i .i64 n)], h => .ok (.agg [.i .i64 16, .i .u64 (IntKind.u64.wrap n)]) [] h
  | _, _ => .bad
theorem pfld_snd : Snd Try.prog 71 (FSpec.of pfldG) := snd_run (noT_snd _) mixed Try.func71 dc71 100 fun args h K _ hS => by
  unfold pfldG at hS
  split at hS
  · simp only [spec_ok] at hS
    simp (config := { maxSteps := 10000000 }) only [EV1, EV2, EV3, EV4, EV5, EV6, addT, istep, pickR, putD, bin1R, un1R, slcR, bnd, capsOf, fillP, V.plain, V.cells, V.known, C.v, blk, setL, setH, eqS, eq1, cmpS, cmp1, isNil, popTo, killT, setT, leT, V.below, S.below, R.below, V.val, C.val, S.val, R.val, R.takes, vals, shows, unnamed, V.kill, V.names, C.names, S.names, R.names, List.set, List.replicate, ↓q_cond_t, ↓q_cond_f, if_true, if_false, reduceCtorEq, rvals, rvC, result, C.known, V.noL, C.noL, S.noL, R.noL, Option.map, true_and, and_true, ge_iff_le, gt_iff_lt, implies_true, q_ite_t, q_ite_f, beq_iff_eq, bne_iff_ne, q_ne, Nat.reduceAdd, Nat.reducePow, Int.reducePow, Nat.reduceMul, Nat.reduceSub, Nat.reduceLeDiff, Nat.reduceLT, Nat.reduceEqDiff, Int.reduceNeg, Int.reduceLT, Int.reduceLE, Int.reduceEq, Int.reduceNe, Int.reduceAdd, Int.reduceSub, Int.reduceMul, Int.reduceToNat, Int.reduceBEq, Int.reduceBNe, df71, put, fillP, sub, List.take_succ_cons, List.take_zero, List.drop_zero]
    exact hS
  · exact hS.elim
/-- What is told of a slot that may be. -/
theorem slotRB_iff {s : Slot} (h : slotRB s = true) : rightB s.cap = true ∧ (0 ≤ s.prev ∧ s.prev < 65536 ∧ s.prev % 4 = 0) ∧ (0 ≤ s.next ∧ s.next < 65536 ∧ s.next % 4 = 0) ∧ 0 ≤ s.depth ∧ s.depth < 65536 := by
  simp only [slotRB, linkB, Bool.and_eq_true, decide_eq_true_eq, beq_iff_eq] at h
  obtain ⟨_, h1, ⟨p1, p2, p3⟩, ⟨n1, n2, n3⟩, d1, d2⟩ := h
  rw [Int.tmod_eq_emod_of_nonneg p1] at p3
  rw [Int.tmod_eq_emod_of_nonneg n1] at n3
  exact ⟨h1, ⟨p1, p2, p3⟩, ⟨n1, n2, n3⟩, d1, d2⟩
theorem links_B {s : Slot} (h : slotRB s = true) : packB [⟨16, s.prev⟩, ⟨16, s.next⟩, ⟨16, s.depth⟩] 0 = true := by
  obtain ⟨_, h1, h2, h3⟩ := slotRB_iff h
  simp only [packB, setB, fieldB, Bool.and_eq_true, decide_eq_true_eq]
  simp only [Int.reduceAdd, Int.reduceSub, Int.reduceLE, Int.reduceToNat, Nat.reducePow, true_and, and_true]
  omega
theorem links_V {s : Slot} (h : slotRB s = true) : packV [⟨16, s.prev⟩, ⟨16, s.next⟩, ⟨16, s.depth⟩] 0 = s.links := by
  obtain ⟨_, h1, h2, h3⟩ := slotRB_iff h
  simp only [packV, Int.reduceAdd, Int.reduceToNat, Nat.reducePow, Slot.links]
  omega
theorem links_u {s : Slot} (h : slotRB s = true) : u64 s.links := by
  obtain ⟨_, h1, h2, h3⟩ := slotRB_iff h
  simp only [u64, Slot.links]; omega

noncomputable def TPu : Tab := addT 70 sthereG (addT 68 slotRG (addT 17 encG (addT 71 pfldG (addT 58 packG (addT 72 writeG noT)))))
theorem TPu_snd : TPu.Snd Try.prog := addT_snd ok70 sthere_snd (addT_snd ok68 slotR_snd (addT_snd ok17 enc_snd (addT_snd ok71 pfld_snd (addT_snd ok58 pack_snd (addT_snd ok72 mwrite_snd (noT_snd _))))))
theorem putS_snd : Snd Try.prog 41 (FSpec.of putSG) := snd_run TPu_snd mixed Try.func41 dc41 300 fun args h K hc hS => by
  obtain ⟨a, b, m, rest, rfl, H, hS1⟩ := memF_spec hS
  clear hS
  have hS := hS1
  clear hS1
  obtain ⟨x, s, rfl, q1, q2, q3⟩ := putSM_spec hS
  clear hS
  rw [setM_self H] at q1 q2
  have hl := m.l
  cases ht : thereB m x with
  | false =>
    have hS := q1 ht
    simp only [Slot.cl]
    simp (config := { maxSteps := 10000000 }) only [EV1, EV2, EV3, EV4, EV5, EV6, addT, istep, pickR, putD, bin1R, un1R, slcR, bnd, capsOf, fillP, V.plain, V.cells, V.known, C.v, blk, setL, setH, eqS, eq1, cmpS, cmp1, isNil, popTo, killT, setT, leT, V.below, S.below, R.below, V.val, C.val, S.val, R.val, R.takes, vals, shows, unnamed, V.kill, V.names, C.names, S.names, R.names, List.set, List.replicate, ↓q_cond_t, ↓q_cond_f, if_true, if_false, reduceCtorEq, rvals, rvC, result, C.known, V.noL, C.noL, S.noL, R.noL, Option.map, true_and, and_true, ge_iff_le, gt_iff_lt, implies_true, q_ite_t, q_ite_f, beq_iff_eq, bne_iff_ne, q_ne, Nat.reduceAdd, Nat.reducePow, Int.reducePow, Nat.reduceMul, Nat.reduceSub, Nat.reduceLeDiff, Nat.reduceLT, Nat.reduceEqDiff, Int.reduceNeg, Int.reduceLT, Int.reduceLE, Int.reduceEq, Int.reduceNe, Int.reduceAdd, Int.reduceSub, Int.reduceMul, Int.reduceToNat, Int.reduceBEq, Int.reduceBNe, df41, TPu, sthereG, memF_eq H, sthereM, setM_self H, ht]
    exact hS
  | true =>
    cases hr : slotRB s with
    | false =>
      have hS := q2 ht hr
      simp only [Slot.cl]
      simp (config := { maxSteps := 10000000 }) only [EV1, EV2, EV3, EV4, EV5, EV6, addT, istep, pickR, putD, bin1R, un1R, slcR, bnd, capsOf, fillP, V.plain, V.cells, V.known, C.v, blk, setL, setH, eqS, eq1, cmpS, cmp1, isNil, popTo, killT, setT, leT, V.below, S.below, R.below, V.val, C.val, S.val, R.val, R.takes, vals, shows, unnamed, V.kill, V.names, C.names, S.names, R.names, List.set, List.replicate, ↓q_cond_t, ↓q_cond_f, if_true, if_false, reduceCtorEq, rvals, rvC, result, C.known, V.noL, C.noL, S.noL, R.noL, Option.map, true_and, and_true, ge_iff_le, gt_iff_lt, implies_true, q_ite_t, q_ite_f, beq_iff_eq, bne_iff_ne, q_ne, Nat.reduceAdd, Nat.reducePow, Int.reducePow, Nat.reduceMul, Nat.reduceSub, Nat.reduceLeDiff, Nat.reduceLT, Nat.reduceEqDiff, Int.reduceNeg, Int.reduceLT, Int.reduceLE, Int.reduceEq, Int.reduceNe, Int.reduceAdd, Int.reduceSub, Int.reduceMul, Int.reduceToNat, Int.reduceBEq, Int.reduceBNe, df41, TPu, sthereG, memF_eq H, sthereM, setM_self H, ht, slotRG, slotF, slot_eta, hr, sub, List.take_succ_cons, List.take_zero, List.drop_zero]
      exact hS
    | true =>
      have hS := q3 ht hr
      have hb := there_iff.1 ht
      obtain ⟨rc, ⟨p1, p2, _⟩, ⟨n1, n2, _⟩, d1, d2⟩ := slotRB_iff hr
      obtain ⟨u0, u1, _, _⟩ := enc_back rc
      have u2 := links_u hr
      have eB := links_B hr
      have eV := links_V hr
      have h0 : m.has x 1 = true := M.has_of (by omega)
      have h1 : m.has (x + 1) 1 = true := M.has_of (by omega)
      have h2 : m.has (x + 2) 1 = true := M.has_of (by omega)
      have h3 : m.has (x + 3) 1 = true := M.has_of (by omega)
      have w0 : IntKind.i64.wrap (x + 0) = x := by rw [wrap64] <;> omega
      have w1 : IntKind.i64.wrap (x + 1) = x + 1 := wrap64 (by omega) (by omega)
      have w2 : IntKind.i64.wrap (x + 2) = x + 2 := wrap64 (by omega) (by omega)
      have w3 : IntKind.i64.wrap (x + 3) = x + 3 := wrap64 (by omega) (by omega)
      have v1 : IntKind.i64.wrap 1 = 1 := by decide
      have v2 : IntKind.i64.wrap 2 = 2 := by decide
      have v3 : IntKind.i64.wrap 3 = 3 := by decide
      have v4 : IntKind.i64.wrap 4 = 4 := by decide
      have x1 : IntKind.u64.wrap s.prev = s.prev := wrapu p1 (by omega)
      have x2 : IntKind.u64.wrap s.next = s.next := wrapu n1 (by omega)
      have x3 : IntKind.u64.wrap s.depth = s.depth := wrapu d1 (by omega)
      have y1 : u64 s.prev := ⟨p1, by omega⟩
      have y2 : u64 s.next := ⟨n1, by omega⟩
      have y3 : u64 s.depth := ⟨d1, by omega⟩
      have u3 := u64_0
      simp only [M.putS] at hS
      simp only [Slot.cl]
      simp (config := { maxSteps := 10000000 }) only [EV1, EV2, EV3, EV4, EV5, EV6, addT, istep, pickR, putD, bin1R, un1R, slcR, bnd, capsOf, fillP, V.plain, V.cells, V.known, C.v, blk, setL, setH, eqS, eq1, cmpS, cmp1, isNil, popTo, killT, setT, leT, V.below, S.below, R.below, V.val, C.val, S.val, R.val, R.takes, vals, shows, unnamed, V.kill, V.names, C.names, S.names, R.names, List.set, List.replicate, ↓q_cond_t, ↓q_cond_f, if_true, if_false, reduceCtorEq, rvals, rvC, result, C.known, V.noL, C.noL, S.noL, R.noL, Option.map, true_and, and_true, ge_iff_le, gt_iff_lt, implies_true, q_ite_t, q_ite_f, beq_iff_eq, bne_iff_ne, q_ne, Nat.reduceAdd, Nat.reducePow, Int.reducePow, Nat.reduceMul, Nat.reduceSub, Nat.reduceLeDiff, Nat.reduceLT, Nat.reduceEqDiff, Int.reduceNeg, Int.reduceLT, Int.reduceLE, Int.reduceEq, Int.reduceNe, Int.reduceAdd, Int.reduceSub, Int.reduceMul, Int.reduceToNat, Int.reduceBEq, Int.reduceBNe, df41, TPu, sthereG, memF_eq H, sthereM, setM_self H, ht, slotRG, slotF, slot_eta, cap_eta, hr, rc, encG, capF, pfldG, packG, R.lend, R.unlend, S.ren, C.ren, V.ren, Blk.ren, take_app, drop_app, Nat.not_lt_zero, Nat.lt_irrefl, Nat.add_sub_cancel_left, Nat.not_lt, Nat.le_add_right, decF, arr, Fd.c, List.take, eB, eV, x1, x2, x3, put, fillP, sub, List.take_succ_cons, List.take_zero, List.drop_zero]
      refine ⟨?_, hc, ?_⟩
      · intro f hf
        simp only [List.mem_cons, List.not_mem_nil, or_false] at hf
        rcases hf with rfl | rfl | rfl <;> assumption
      rw [holds_loop]
      refine swp_loop fun X hX => ?_
      refine hX _ ?_
      refine run_sound (Tab.ok_Γ _) 200 _ _ _ _ ?_
      simp (config := { maxSteps := 10000000 }) only [EV1, EV2, EV3, EV4, EV5, EV6, addT, istep, pickR, putD, bin1R, un1R, slcR, bnd, capsOf, fillP, V.plain, V.cells, V.known, C.v, blk, setL, setH, eqS, eq1, cmpS, cmp1, isNil, popTo, killT, setT, leT, V.below, S.below, R.below, V.val, C.val, S.val, R.val, R.takes, vals, shows, unnamed, V.kill, V.names, C.names, S.names, R.names, List.set, List.replicate, ↓q_cond_t, ↓q_cond_f, if_true, if_false, reduceCtorEq, rvals, rvC, result, C.known, V.noL, C.noL, S.noL, R.noL, Option.map, true_and, and_true, ge_iff_le, gt_iff_lt, implies_true, q_ite_t, q_ite_f, beq_iff_eq, bne_iff_ne, q_ne, Nat.reduceAdd, Nat.reducePow, Int.reducePow, Nat.reduceMul, Nat.reduceSub, Nat.reduceLeDiff, Nat.reduceLT, Nat.reduceEqDiff, Int.reduceNeg, Int.reduceLT, Int.reduceLE, Int.reduceEq, Int.reduceNe, Int.reduceAdd, Int.reduceSub, Int.reduceMul, Int.reduceToNat, Int.reduceBEq, Int.reduceBNe, TPu, writeG, memF_eq H, memF_set H, writeM, h0, h1, h2, h3, w0, w1, w2, w3, v1, v2, v3, v4, u0, u1, u2, u3, M.put_has, M.tick_has, M.put_tick, M.tick_tick, put, setM_fun H]
      refine hX _ ?_
      refine run_sound (Tab.ok_Γ _) 200 _ _ _ _ ?_
      simp (config := { maxSteps := 10000000 }) only [EV1, EV2, EV3, EV4, EV5, EV6, addT, istep, pickR, putD, bin1R, un1R, slcR, bnd, capsOf, fillP, V.plain, V.cells, V.known, C.v, blk, setL, setH, eqS, eq1, cmpS, cmp1, isNil, popTo, killT, setT, leT, V.below, S.below, R.below, V.val, C.val, S.val, R.val, R.takes, vals, shows, unnamed, V.kill, V.names, C.names, S.names, R.names, List.set, List.replicate, ↓q_cond_t, ↓q_cond_f, if_true, if_false, reduceCtorEq, rvals, rvC, result, C.known, V.noL, C.noL, S.noL, R.noL, Option.map, true_and, and_true, ge_iff_le, gt_iff_lt, implies_true, q_ite_t, q_ite_f, beq_iff_eq, bne_iff_ne, q_ne, Nat.reduceAdd, Nat.reducePow, Int.reducePow, Nat.reduceMul, Nat.reduceSub, Nat.reduceLeDiff, Nat.reduceLT, Nat.reduceEqDiff, Int.reduceNeg, Int.reduceLT, Int.reduceLE, Int.reduceEq, Int.reduceNe, Int.reduceAdd, Int.reduceSub, Int.reduceMul, Int.reduceToNat, Int.reduceBEq, Int.reduceBNe, TPu, writeG, memF_eq H, memF_set H, writeM, h0, h1, h2, h3, w0, w1, w2, w3, v1, v2, v3, v4, u0, u1, u2, u3, M.put_has, M.tick_has, M.put_tick, M.tick_tick, put, setM_fun H]
      refine hX _ ?_
      refine run_sound (Tab.ok_Γ _) 200 _ _ _ _ ?_
      simp (config := { maxSteps := 10000000 }) only [EV1, EV2, EV3, EV4, EV5, EV6, addT, istep, pickR, putD, bin1R, un1R, slcR, bnd, capsOf, fillP, V.plain, V.cells, V.known, C.v, blk, setL, setH, eqS, eq1, cmpS, cmp1, isNil, popTo, killT, setT, leT, V.below, S.below, R.below, V.val, C.val, S.val, R.val, R.takes, vals, shows, unnamed, V.kill, V.names, C.names, S.names, R.names, List.set, List.replicate, ↓q_cond_t, ↓q_cond_f, if_true, if_false, reduceCtorEq, rvals, rvC, result, C.known, V.noL, C.noL, S.noL, R.noL, Option.map, true_and, and_true, ge_iff_le, gt_iff_lt, implies_true, q_ite_t, q_ite_f, beq_iff_eq, bne_iff_ne, q_ne, Nat.reduceAdd, Nat.reducePow, Int.reducePow, Nat.reduceMul, Nat.reduceSub, Nat.reduceLeDiff, Nat.reduceLT, Nat.reduceEqDiff, Int.reduceNeg, Int.reduceLT, Int.reduceLE, Int.reduceEq, Int.reduceNe, Int.reduceAdd, Int.reduceSub, Int.reduceMul, Int.reduceToNat, Int.reduceBEq, Int.reduceBNe, TPu, writeG, memF_eq H, memF_set H, writeM, h0, h1, h2, h3, w0, w1, w2, w3, v1, v2, v3, v4, u0, u1, u2, u3, M.put_has, M.tick_has, M.put_tick, M.tick_tick, put, setM_fun H]
      refine hX _ ?_
      refine run_sound (Tab.ok_Γ _) 200 _ _ _ _ ?_
      simp (config := { maxSteps := 10000000 }) only [EV1, EV2, EV3, EV4, EV5, EV6, addT, istep, pickR, putD, bin1R, un1R, slcR, bnd, capsOf, fillP, V.plain, V.cells, V.known, C.v, blk, setL, setH, eqS, eq1, cmpS, cmp1, isNil, popTo, killT, setT, leT, V.below, S.below, R.below, V.val, C.val, S.val, R.val, R.takes, vals, shows, unnamed, V.kill, V.names, C.names, S.names, R.names, List.set, List.replicate, ↓q_cond_t, ↓q_cond_f, if_true, if_false, reduceCtorEq, rvals, rvC, result, C.known, V.noL, C.noL, S.noL, R.noL, Option.map, true_and, and_true, ge_iff_le, gt_iff_lt, implies_true, q_ite_t, q_ite_f, beq_iff_eq, bne_iff_ne, q_ne, Nat.reduceAdd, Nat.reducePow, Int.reducePow, Nat.reduceMul, Nat.reduceSub, Nat.reduceLeDiff, Nat.reduceLT, Nat.reduceEqDiff, Int.reduceNeg, Int.reduceLT, Int.reduceLE, Int.reduceEq, Int.reduceNe, Int.reduceAdd, Int.reduceSub, Int.reduceMul, Int.reduceToNat, Int.reduceBEq, Int.reduceBNe, TPu, writeG, memF_eq H, memF_set H, writeM, h0, h1, h2, h3, w0, w1, w2, w3, v1, v2, v3, v4, u0, u1, u2, u3, M.put_has, M.tick_has, M.put_tick, M.tick_tick, put, setM_fun H]
      refine hX _ ?_
      refine run_sound (Tab.ok_Γ _) 200 _ _ _ _ ?_
      simp (config := { maxSteps := 10000000 }) only [EV1, EV2, EV3, EV4, EV5, EV6, addT, istep, pickR, putD, bin1R, un1R, slcR, bnd, capsOf, fillP, V.plain, V.cells, V.known, C.v, blk, setL, setH, eqS, eq1, cmpS, cmp1, isNil, popTo, killT, setT, leT, V.below, S.below, R.below, V.val, C.val, S.val, R.val, R.takes, vals, shows, unnamed, V.kill, V.names, C.names, S.names, R.names, List.set, List.replicate, ↓q_cond_t, ↓q_cond_f, if_true, if_false, reduceCtorEq, rvals, rvC, result, C.known, V.noL, C.noL, S.noL, R.noL, Option.map, true_and, and_true, ge_iff_le, gt_iff_lt, implies_true, q_ite_t, q_ite_f, beq_iff_eq, bne_iff_ne, q_ne, Nat.reduceAdd, Nat.reducePow, Int.reducePow, Nat.reduceMul, Nat.reduceSub, Nat.reduceLeDiff, Nat.reduceLT, Nat.reduceEqDiff, Int.reduceNeg, Int.reduceLT, Int.reduceLE, Int.reduceEq, Int.reduceNe, Int.reduceAdd, Int.reduceSub, Int.reduceMul, Int.reduceToNat, Int.reduceBEq, Int.reduceBNe, TPu, writeG, memF_eq H, memF_set H, writeM, h0, h1, h2, h3, w0, w1, w2, w3, v1, v2, v3, v4, u0, u1, u2, u3, M.put_has, M.tick_has, M.put_tick, M.tick_tick, put, setM_fun H]
      exact hS

theorem rputS_snd : Snd Try.prog 80 (FSpec.of putSG) := snd_run TGr_snd mixed Try.func80 dc80 300 fun args h K hc hS => by
  obtain ⟨a, b, m, rest, rfl, H, hS1⟩ := memF_spec hS
  clear hS
  have hS := hS1
  clear hS1
  obtain ⟨x, s, rfl, q1, q2, q3⟩ := putSM_spec hS
  clear hS
  rw [setM_self H] at q1 q2
  have hl := m.l
  cases ht : thereB m x with
  | false =>
    have hS := q1 ht
    simp only [Slot.cl]
    simp (config := { maxSteps := 10000000 }) only [EV1, EV2, EV3, EV4, EV5, EV6, addT, istep, pickR, putD, bin1R, un1R, slcR, bnd, capsOf, fillP, V.plain, V.cells, V.known, C.v, blk, setL, setH, eqS, eq1, cmpS, cmp1, isNil, popTo, killT, setT, leT, V.below, S.below, R.below, V.val, C.val, S.val, R.val, R.takes, vals, shows, unnamed, V.kill, V.names, C.names, S.names, R.names, List.set, List.replicate, ↓q_cond_t, ↓q_cond_f, if_true, if_false, reduceCtorEq, rvals, rvC, result, C.known, V.noL, C.noL, S.noL, R.noL, Option.map, true_and, and_true, ge_iff_le, gt_iff_lt, implies_true, q_ite_t, q_ite_f, beq_iff_eq, bne_iff_ne, q_ne, Nat.reduceAdd, Nat.reducePow, Int.reducePow, Nat.reduceMul, Nat.reduceSub, Nat.reduceLeDiff, Nat.reduceLT, Nat.reduceEqDiff, Int.reduceNeg, Int.reduceLT, Int.reduceLE, Int.reduceEq, Int.reduceNe, Int.reduceAdd, Int.reduceSub, Int.reduceMul, Int.reduceToNat, Int.reduceBEq, Int.reduceBNe, df80, TGr, sthereG, memF_eq H, sthereM, setM_self H, ht]
    exact hS
  | true =>
    cases hr : slotRB s with
    | false =>
      have hS := q2 ht hr
      simp only [Slot.cl]
      simp (config := { maxSteps := 10000000 }) only [EV1, EV2, EV3, EV4, EV5, EV6, addT, istep, pickR, putD, bin1R, un1R, slcR, bnd, capsOf, fillP, V.plain, V.cells, V.known, C.v, blk, setL, setH, eqS, eq1, cmpS, cmp1, isNil, popTo, killT, setT, leT, V.below, S.below, R.below, V.val, C.val, S.val, R.val, R.takes, vals, shows, unnamed, V.kill, V.names, C.names, S.names, R.names, List.set, List.replicate, ↓q_cond_t, ↓q_cond_f, if_true, if_false, reduceCtorEq, rvals, rvC, result, C.known, V.noL, C.noL, S.noL, R.noL, Option.map, true_and, and_true, ge_iff_le, gt_iff_lt, implies_true, q_ite_t, q_ite_f, beq_iff_eq, bne_iff_ne, q_ne, Nat.reduceAdd, Nat.reducePow, Int.reducePow, Nat.reduceMul, Nat.reduceSub, Nat.reduceLeDiff, Nat.reduceLT, Nat.reduceEqDiff, Int.reduceNeg, Int.reduceLT, Int.reduceLE, Int.reduceEq, Int.reduceNe, Int.reduceAdd, Int.reduceSub, Int.reduceMul, Int.reduceToNat, Int.reduceBEq, Int.reduceBNe, df80, TGr, sthereG, memF_eq H, sthereM, setM_self H, ht, slotRG, slotF, slot_eta, hr, sub, List.take_succ_cons, List.take_zero, List.drop_zero]
      exact hS
    | true =>
      have hS := q3 ht hr
      have hb := there_iff.1 ht
      obtain ⟨rc, ⟨p1, p2, _⟩, ⟨n1, n2, _⟩, d1, d2⟩ := slotRB_iff hr
      obtain ⟨u0, u1, _, _⟩ := enc_back rc
      have u2 := links_u hr
      have h0 : m.has x 1 = true := M.has_of (by omega)
      have h1 : m.has (x + 1) 1 = true := M.has_of (by omega)
      have h2 : m.has (x + 2) 1 = true := M.has_of (by omega)
      have h3 : m.has (x + 3) 1 = true := M.has_of (by omega)
      have w1 : IntKind.i64.wrap (x + 1) = x + 1 := wrap64 (by omega) (by omega)
      have w2 : IntKind.i64.wrap (x + 2) = x + 2 := wrap64 (by omega) (by omega)
      have w3 : IntKind.i64.wrap (x + 3) = x + 3 := wrap64 (by omega) (by omega)
      have x1 : IntKind.u64.wrap s.prev = s.prev := wrapu p1 (by omega)
      have x2 : IntKind.u64.wrap s.next = s.next := wrapu n1 (by omega)
      have x3 : IntKind.u64.wrap s.depth = s.depth := wrapu d1 (by omega)
      have x4 : IntKind.u64.wrap (s.next * 65536) = s.next * 65536 := wrapu (by omega) (by omega)
      have x5 : IntKind.u64.wrap (s.depth * 4294967296) = s.depth * 4294967296 := wrapu (by omega) (by omega)
      have x6 : IntKind.u64.wrap (s.prev + s.next * 65536) = s.prev + s.next * 65536 := wrapu (by omega) (by omega)
      have x7 : IntKind.u64.wrap (s.prev + s.next * 65536 + s.depth * 4294967296) = s.links := by
        rw [wrapu (by omega) (by omega), Slot.links]; omega
      have u3 := u64_0
      simp only [M.putS] at hS
      simp only [Slot.cl]
      simp (config := { maxSteps := 10000000 }) only [EV1, EV2, EV3, EV4, EV5, EV6, addT, istep, pickR, putD, bin1R, un1R, slcR, bnd, capsOf, fillP, V.plain, V.cells, V.known, C.v, blk, setL, setH, eqS, eq1, cmpS, cmp1, isNil, popTo, killT, setT, leT, V.below, S.below, R.below, V.val, C.val, S.val, R.val, R.takes, vals, shows, unnamed, V.kill, V.names, C.names, S.names, R.names, List.set, List.replicate, ↓q_cond_t, ↓q_cond_f, if_true, if_false, reduceCtorEq, rvals, rvC, result, C.known, V.noL, C.noL, S.noL, R.noL, Option.map, true_and, and_true, ge_iff_le, gt_iff_lt, implies_true, q_ite_t, q_ite_f, beq_iff_eq, bne_iff_ne, q_ne, Nat.reduceAdd, Nat.reducePow, Int.reducePow, Nat.reduceMul, Nat.reduceSub, Nat.reduceLeDiff, Nat.reduceLT, Nat.reduceEqDiff, Int.reduceNeg, Int.reduceLT, Int.reduceLE, Int.reduceEq, Int.reduceNe, Int.reduceAdd, Int.reduceSub, Int.reduceMul, Int.reduceToNat, Int.reduceBEq, Int.reduceBNe, df80, TGr, sthereG, memF_eq H, memF_set H, sthereM, setM_self H, setM_fun H, ht, slotRG, slotF, slot_eta, cap_eta, hr, rc, encG, capF, writeG, writeM, h0, h1, h2, h3, w1, w2, w3, u0, u1, u2, u3, M.put_has, M.tick_has, M.put_tick, M.tick_tick, x1, x2, x3, x4, x5, x6, x7, min16, min32, put, fillP, sub, List.take_succ_cons, List.take_zero, List.drop_zero]
      exact hS
end Go.Proofs.Ythegocjfnjfkdaa

/- Lists of words: Dump, Load, Same. -/
namespace Go.Proofs.Ythegocjfnjfkdaa
open Go.D
set_option linter.all false
set_option maxRecDepth 100000
set_option maxHeartbeats 4000000

/-- A list of words, as a slice. -/
def IsList (h : List Blk) (s : S) (vs : List Int) : Prop :=
  (s = .ns ∧ vs = []) ∨ ∃ j o c B, s = .sl (.g j) o vs.length c ∧ h[j]? = some B ∧ B.st ≠ .dead ∧ o + vs.length ≤ B.cells.length ∧ sub B.cells o vs.length = wc vs
theorem IsList.uniq {h : List Blk} {s : S} {v w : List Int} (H : IsList h s v) (H' : IsList h s w) : v = w := by
  rcases H with ⟨rfl, rfl⟩ | ⟨j, o, c, B, rfl, e1, _, _, e2⟩
  · rcases H' with ⟨_, rfl⟩ | ⟨j, o, c, B, e, _⟩
    · rfl
    · cases e
  · rcases H' with ⟨e, _⟩ | ⟨j', o', c', B', e, e3, _, _, e4⟩
    · cases e
    · simp only [S.sl.injEq, R.g.injEq] at e
      obtain ⟨rfl, rfl, e5, rfl⟩ := e
      rw [e1, Option.some.injEq] at e3
      subst e3
      rw [← e5, e2] at e4
      exact wc_inj e4
open Classical in
noncomputable def listOf (h : List Blk) (s : S) : Option (List Int) := if hx : ∃ v, IsList h s v then some (Classical.choose hx) else none
theorem listOf_eq {h : List Blk} {s : S} {v : List Int} (H : IsList h s v) : listOf h s = some v := by
  have hx : ∃ v, IsList h s v := ⟨v, H⟩
  unfold listOf
  rw [dif_pos hx, IsList.uniq (Classical.choose_spec hx) H]
theorem listOf_some {h : List Blk} {s : S} {v : List Int} (e : listOf h s = some v) : IsList h s v := by
  unfold listOf at e
  split at e
  · rename_i hx
    have := Classical.choose_spec hx
    rw [Option.some.injEq] at e
    rw [e] at this
    exact this
  · cases e
theorem IsList.get {o n : Nat} {cells : List S} {vs : List Int} (e : sub cells o n = wc vs) {i : Nat} (h : i < vs.length) (hn : vs.length = n) : cells[o + i]? = some (.i .u64 (nth 0 vs i)) := by
  have h1 := congrArg (fun l => l[i]?) e
  simp only [sub, wc_get h] at h1
  rw [List.getElem?_take, if_pos (by omega), List.getElem?_drop] at h1
  exact h1
/-- A whole block. -/
theorem IsList.whole {h : List Blk} {j c room : Nat} {st : BK} {vs : List Int} (hj : h[j]? = some ⟨st, wc vs, room⟩) (hs : st ≠ .dead) : IsList h (.sl (.g j) 0 vs.length c) vs := by
  refine .inr ⟨j, 0, c, _, rfl, hj, hs, ?_, ?_⟩
  · simp [wc_len]
  · rw [wc_sub, List.drop_zero, List.take_length]
theorem IsList.app {h X : List Blk} {s : S} {v : List Int} (H : IsList h s v) : IsList (h ++ X) s v := by
  rcases H with ⟨rfl, rfl⟩ | ⟨j, o, c, B, rfl, e1, e2⟩
  · exact .inl ⟨rfl, rfl⟩
  · exact .inr ⟨j, o, c, B, rfl, by rw [List.getElem?_append_left (List.getElem?_eq_some_iff.1 e1).1]; exact e1, e2⟩

theorem wc_val (n k : Nat) (w : List Int) : (wc w).all (S.val n k) = true := wc_all (fun _ => rfl) w
noncomputable def cloneG : List V → List Blk → Res
  | [.s .ns], h => .ok (.s .ns) [] h
  | [.s (.sl r o n c)], h => match listOf h (.sl r o n c) with
    | some vs => .ob (vs.length ≤ 8796093022208) (.all vs.length fun c => .ok (.s (.sl (.g h.length) 0 vs.length c)) [] (h ++ [⟨.rw, wc vs, c⟩]))
    | none => .bad
  | _, _ => .bad
theorem clone_snd : Snd Try.prog 73 (FSpec.of cloneG) := snd_run (noT_snd _) mixed Try.func73 dc73 100 fun args h K hc hS => by
  unfold cloneG at hS
  split at hS
  · simp only [spec_ok] at hS
    simp (config := { maxSteps := 10000000 }) only [EV1, EV2, EV3, EV4, EV5, EV6, addT, istep, pickR, putD, bin1R, un1R, slcR, bnd, capsOf, fillP, V.plain, V.cells, V.known, C.v, blk, setL, setH, eqS, eq1, cmpS, cmp1, isNil, popTo, killT, setT, leT, V.below, S.below, R.below, V.val, C.val, S.val, R.val, R.takes, vals, shows, unnamed, V.kill, V.names, C.names, S.names, R.names, List.set, List.replicate, ↓q_cond_t, ↓q_cond_f, if_true, if_false, reduceCtorEq, rvals, rvC, result, C.known, V.noL, C.noL, S.noL, R.noL, Option.map, true_and, and_true, ge_iff_le, gt_iff_lt, implies_true, q_ite_t, q_ite_f, beq_iff_eq, bne_iff_ne, q_ne, Nat.reduceAdd, Nat.reducePow, Int.reducePow, Nat.reduceMul, Nat.reduceSub, Nat.reduceLeDiff, Nat.reduceLT, Nat.reduceEqDiff, Int.reduceNeg, Int.reduceLT, Int.reduceLE, Int.reduceEq, Int.reduceNe, Int.reduceAdd, Int.reduceSub, Int.reduceMul, Int.reduceToNat, Int.reduceBEq, Int.reduceBNe, df73]
    exact hS
  · rename_i r o n c
    split at hS
    · rename_i vs hv
      obtain ⟨hl, hS⟩ := hS
      rcases listOf_some hv with ⟨e, _⟩ | ⟨j, o', c', B, e, hj, hd, hle, hs⟩
      · cases e
      · simp only [S.sl.injEq] at e
        obtain ⟨rfl, rfl, rfl, rfl⟩ := e
        have c1 : ¬ (B.st = .dead ∨ B.cells.length < o + vs.length) := by rintro (x | x); exact hd x; omega
        have c2 : vs.length * 8 ≤ 140737488355328 := by omega
        have c3 : vals h.length 1 (wc vs) = true := wc_vals _ _ _
        have c4 : (wc vs).all (fun s => !S.names 0 s) = true := wc_names 0 vs
        have c5 : ¬ B.cells.length < o + vs.length := by omega
        simp only [spec_all, spec_ok] at hS
        simp (config := { maxSteps := 10000000 }) only [EV1, EV2, EV3, EV4, EV5, EV6, addT, istep, pickR, putD, bin1R, un1R, slcR, bnd, capsOf, fillP, V.plain, V.cells, V.known, C.v, blk, setL, setH, eqS, eq1, cmpS, cmp1, isNil, popTo, killT, setT, leT, V.below, S.below, R.below, V.val, C.val, S.val, R.val, R.takes, vals, shows, unnamed, V.kill, V.names, C.names, S.names, R.names, List.set, List.replicate, ↓q_cond_t, ↓q_cond_f, if_true, if_false, reduceCtorEq, rvals, rvC, result, C.known, V.noL, C.noL, S.noL, R.noL, Option.map, true_and, and_true, ge_iff_le, gt_iff_lt, implies_true, q_ite_t, q_ite_f, beq_iff_eq, bne_iff_ne, q_ne, Nat.reduceAdd, Nat.reducePow, Int.reducePow, Nat.reduceMul, Nat.reduceSub, Nat.reduceLeDiff, Nat.reduceLT, Nat.reduceEqDiff, Int.reduceNeg, Int.reduceLT, Int.reduceLE, Int.reduceEq, Int.reduceNe, Int.reduceAdd, Int.reduceSub, Int.reduceMul, Int.reduceToNat, Int.reduceBEq, Int.reduceBNe, df73, fillP, hj, hd, c1, c5, hs, wc_known, c2, wc_val, wc_all]
        intro c hc1
        refine ⟨[0], by simp, rfl, ?_⟩
        simp only [getAll, List.getElem?_cons_zero]
        refine ⟨?_, ?_⟩
        · simp [wc_kept]
        · have := hS c hc1
          refine cast (congrArg (K _) ?_) this
          simp [Blk.ren, wc_ren]
    · exact hS.elim
  · exact hS.elim

noncomputable def dumpM (b : Nat) (m : M) (st : M → List Blk) : List V → Res
  | [.s (.i .i64 x), .s (.i .i64 k)] => .br (m.has x k) (.all k.toNat fun c => .ok (.tup [.s (.sl (.g (st m).length) 0 k.toNat c), .s (.i .i64 0)]) [] (st m ++ [⟨.rw, wc ((m.w.drop x.toNat).take k.toNat), c⟩]))
      (.ok (.tup [.s .ns, .s (.i .i64 20)]) [] (st m))
  | _ => .bad
noncomputable def dumpG := memF dumpM
noncomputable def TDu : Tab := addT 69 spanG (addT 73 cloneG noT)
theorem TDu_snd : TDu.Snd Try.prog := addT_snd ok69 span_snd (addT_snd ok73 clone_snd (noT_snd _))
theorem mdump_snd : Snd Try.prog 42 (FSpec.of dumpG) := snd_run TDu_snd mixed Try.func42 dc42 100 fun args h K hc hS => by
  obtain ⟨a, b, m, rest, rfl, H, hS1⟩ := memF_spec hS
  clear hS
  have hS := hS1
  clear hS1
  unfold dumpM at hS
  split at hS
  · rename_i x k
    simp only [spec_ok, spec_br, spec_all, setM_self H] at hS
    have hl := m.l
    cases hh : m.has x k with
    | true =>
      have hS := hS.1 hh
      obtain ⟨i, j, rfl, rfl, hij⟩ := M.has_nat hh
      simp only [Int.toNat_natCast] at hS
      have hvl : ((m.w.drop i).take j).length = j := by simp; omega
      have hL : IsList h (.sl (.g b) (if m.w.length = i then 0 else i) j (m.w.length - i)) ((m.w.drop i).take j) := by
        refine .inr ⟨b, _, _, MW m, by rw [hvl], H.hb, fun x => BK.noConfusion x, ?_, ?_⟩
        · rw [hvl]; simp only [MW, wc_len]; split <;> omega
        · rw [hvl]; simp only [MW]; rw [wc_sub]
          split
          · have : j = 0 := by omega
            subst this; simp
          · rfl
      have hB : j ≤ 8796093022208 := by omega
      simp (config := { maxSteps := 10000000 }) only [EV1, EV2, EV3, EV4, EV5, EV6, addT, istep, pickR, putD, bin1R, un1R, slcR, bnd, capsOf, fillP, V.plain, V.cells, V.known, C.v, blk, setL, setH, eqS, eq1, cmpS, cmp1, isNil, popTo, killT, setT, leT, V.below, S.below, R.below, V.val, C.val, S.val, R.val, R.takes, vals, shows, unnamed, V.kill, V.names, C.names, S.names, R.names, List.set, List.replicate, ↓q_cond_t, ↓q_cond_f, if_true, if_false, reduceCtorEq, rvals, rvC, result, C.known, V.noL, C.noL, S.noL, R.noL, Option.map, true_and, and_true, ge_iff_le, gt_iff_lt, implies_true, q_ite_t, q_ite_f, beq_iff_eq, bne_iff_ne, q_ne, Nat.reduceAdd, Nat.reducePow, Int.reducePow, Nat.reduceMul, Nat.reduceSub, Nat.reduceLeDiff, Nat.reduceLT, Nat.reduceEqDiff, Int.reduceNeg, Int.reduceLT, Int.reduceLE, Int.reduceEq, Int.reduceNe, Int.reduceAdd, Int.reduceSub, Int.reduceMul, Int.reduceToNat, Int.reduceBEq, Int.reduceBNe, df42, TDu, spanG, memF_eq H, spanM, setM_self H, hh, cloneG, listOf_eq hL, hvl, hB, Int.toNat_natCast]
      exact hS
    | false =>
      have hS := hS.2 hh
      simp (config := { maxSteps := 10000000 }) only [EV1, EV2, EV3, EV4, EV5, EV6, addT, istep, pickR, putD, bin1R, un1R, slcR, bnd, capsOf, fillP, V.plain, V.cells, V.known, C.v, blk, setL, setH, eqS, eq1, cmpS, cmp1, isNil, popTo, killT, setT, leT, V.below, S.below, R.below, V.val, C.val, S.val, R.val, R.takes, vals, shows, unnamed, V.kill, V.names, C.names, S.names, R.names, List.set, List.replicate, ↓q_cond_t, ↓q_cond_f, if_true, if_false, reduceCtorEq, rvals, rvC, result, C.known, V.noL, C.noL, S.noL, R.noL, Option.map, true_and, and_true, ge_iff_le, gt_iff_lt, implies_true, q_ite_t, q_ite_f, beq_iff_eq, bne_iff_ne, q_ne, Nat.reduceAdd, Nat.reducePow, Int.reducePow, Nat.reduceMul, Nat.reduceSub, Nat.reduceLeDiff, Nat.reduceLT, Nat.reduceEqDiff, Int.reduceNeg, Int.reduceLT, Int.reduceLE, Int.reduceEq, Int.reduceNe, Int.reduceAdd, Int.reduceSub, Int.reduceMul, Int.reduceToNat, Int.reduceBEq, Int.reduceBNe, df42, TDu, spanG, memF_eq H, spanM, setM_self H, hh]
      exact hS
  · exact hS.elim

/-- The slice is none of the memory's words. -/
def apartS (b : Nat) : S → Prop
  | .sl (.g j) _ _ _ => j ≠ b
  | _ => True
noncomputable def loadG : List V → List Blk → Res
  | [.s (.p (.g a) 0), .s (.i .i64 x), .s s], h => match memOf h a, listOf h s with
    | some (b, m), some vs => .ob (apartS b s ∧ ∀ v, v ∈ vs → u64 v) (.br (m.has x vs.length) (.ok (.s (.i .i64 0)) [] (setM h a b (m.lay x.toNat vs))) (.ok (.s (.i .i64 20)) [] h))
    | _, _ => .bad
  | _, _ => .bad
theorem loadG_spec {args : List V} {h : List Blk} {K : V → List Blk → Prop} (hS : (loadG args h).spec K) : ∃ a x s b m vs, args = [.s (.p (.g a) 0), .s (.i .i64 x), .s s] ∧ IsMem h a b m ∧ IsList h s vs ∧ apartS b s ∧ (∀ v, v ∈ vs → u64 v) ∧
    (m.has x vs.length = true → K (.s (.i .i64 0)) (setM h a b (m.lay x.toNat vs))) ∧ (m.has x vs.length = false → K (.s (.i .i64 20)) h) := by
  unfold loadG at hS
  split at hS
  · split at hS
    · rename_i e1 e2
      exact ⟨_, _, _, _, _, _, rfl, memOf_some e1, listOf_some e2, hS.1.1, hS.1.2, hS.2.1, hS.2.2⟩
    · exact hS.elim
  · exact hS.elim
theorem put_none {xs : List S} {o : Nat} : put xs o [] = xs := rfl
theorem mload_snd : Snd Try.prog 76 (FSpec.of loadG) := snd_run TSp_snd mixed Try.func76 dc76 100 fun args h K hc hS => by
  obtain ⟨a, x, s, b, m, vs, rfl, H, HL, hap, hu, q1, q2⟩ := loadG_spec hS
  clear hS
  have hl := m.l
  rcases HL with ⟨rfl, rfl⟩ | ⟨j, o, c, B, rfl, hj, hd, hle, hs⟩
  · cases hh : m.has x 0 with
    | true =>
      have hS := q1 hh
      obtain ⟨i, j, rfl, e, hij⟩ := M.has_nat hh
      rw [M.lay, setM_self H] at hS
      have hset : h.set b (MW m) = h := set_self H.hb
      simp only [MW] at hset
      have hcl : (wc m.w).length = m.w.length := wc_len _
      have c2 : (if m.w.length = i then 0 else i) ≤ m.w.length := by split <;> omega
      simp (config := { maxSteps := 10000000 }) only [EV1, EV2, EV3, EV4, EV5, EV6, addT, istep, pickR, putD, bin1R, un1R, slcR, bnd, capsOf, fillP, V.plain, V.cells, V.known, C.v, blk, setL, setH, eqS, eq1, cmpS, cmp1, isNil, popTo, killT, setT, leT, V.below, S.below, R.below, V.val, C.val, S.val, R.val, R.takes, vals, shows, unnamed, V.kill, V.names, C.names, S.names, R.names, List.set, List.replicate, ↓q_cond_t, ↓q_cond_f, if_true, if_false, reduceCtorEq, rvals, rvC, result, C.known, V.noL, C.noL, S.noL, R.noL, Option.map, true_and, and_true, ge_iff_le, gt_iff_lt, implies_true, q_ite_t, q_ite_f, beq_iff_eq, bne_iff_ne, q_ne, Nat.reduceAdd, Nat.reducePow, Int.reducePow, Nat.reduceMul, Nat.reduceSub, Nat.reduceLeDiff, Nat.reduceLT, Nat.reduceEqDiff, Int.reduceNeg, Int.reduceLT, Int.reduceLE, Int.reduceEq, Int.reduceNe, Int.reduceAdd, Int.reduceSub, Int.reduceMul, Int.reduceToNat, Int.reduceBEq, Int.reduceBNe, df76, TSp, spanG, memF_eq H, spanM, setM_self H, hh, H.hb, MW, hset, hcl, c2, sub, put_none, List.take_nil, List.drop_nil, Nat.min_zero, Nat.zero_min]
      exact hS
    | false =>
      have hS := q2 hh
      simp (config := { maxSteps := 10000000 }) only [EV1, EV2, EV3, EV4, EV5, EV6, addT, istep, pickR, putD, bin1R, un1R, slcR, bnd, capsOf, fillP, V.plain, V.cells, V.known, C.v, blk, setL, setH, eqS, eq1, cmpS, cmp1, isNil, popTo, killT, setT, leT, V.below, S.below, R.below, V.val, C.val, S.val, R.val, R.takes, vals, shows, unnamed, V.kill, V.names, C.names, S.names, R.names, List.set, List.replicate, ↓q_cond_t, ↓q_cond_f, if_true, if_false, reduceCtorEq, rvals, rvC, result, C.known, V.noL, C.noL, S.noL, R.noL, Option.map, true_and, and_true, ge_iff_le, gt_iff_lt, implies_true, q_ite_t, q_ite_f, beq_iff_eq, bne_iff_ne, q_ne, Nat.reduceAdd, Nat.reducePow, Int.reducePow, Nat.reduceMul, Nat.reduceSub, Nat.reduceLeDiff, Nat.reduceLT, Nat.reduceEqDiff, Int.reduceNeg, Int.reduceLT, Int.reduceLE, Int.reduceEq, Int.reduceNe, Int.reduceAdd, Int.reduceSub, Int.reduceMul, Int.reduceToNat, Int.reduceBEq, Int.reduceBNe, df76, TSp, spanG, memF_eq H, spanM, setM_self H, hh]
      exact hS
  · cases hh : m.has x vs.length with
    | true =>
      have hS := q1 hh
      obtain ⟨i, n, rfl, e, hij⟩ := M.has_nat hh
      have e : vs.length = n := by omega
      simp only [Int.toNat_natCast] at hS
      have hcl : (wc m.w).length = m.w.length := wc_len _
      have c5 : ¬ B.cells.length < o + vs.length := by omega
      obtain ⟨o', ho, hoi⟩ : ∃ o' : Nat, (if m.w.length = i then 0 else i) = o' ∧ (i < m.w.length → o' = i) := ⟨_, rfl, fun hlt => if_neg (by omega)⟩
      have c2 : o' + vs.length ≤ m.w.length := by rw [← ho]; split <;> omega
      have hsub : sub (wc vs) 0 vs.length = wc vs := by rw [wc_sub, List.drop_zero, List.take_length]
      have hmin : min vs.length vs.length = vs.length := Nat.min_self _
      have hlay : D.put (wc m.w) o' (wc vs) = wc (m.lay i vs).w := by
        rcases Nat.eq_zero_or_pos vs.length with h0 | h0
        · have : vs = [] := List.eq_nil_of_length_eq_zero h0
          subst this; rfl
        · rw [hoi (by omega)]; exact M.lay_w vs m i hu
      have hset := setM_words H (M.lay_len vs m i) (M.lay_n vs m i)
      rw [← hset] at hS
      simp only [MW, M.lay_len] at hS
      have ht : (wc vs).all (R.takes (R.g b) h.length 0) = true := wc_takes _ _ _ _
      simp (config := { maxSteps := 10000000 }) only [EV1, EV2, EV3, EV4, EV5, EV6, addT, istep, pickR, putD, bin1R, un1R, slcR, bnd, capsOf, fillP, V.plain, V.cells, V.known, C.v, blk, setL, setH, eqS, eq1, cmpS, cmp1, isNil, popTo, killT, setT, leT, V.below, S.below, R.below, V.val, C.val, S.val, R.val, R.takes, vals, shows, unnamed, V.kill, V.names, C.names, S.names, R.names, List.set, List.replicate, ↓q_cond_t, ↓q_cond_f, if_true, if_false, reduceCtorEq, rvals, rvC, result, C.known, V.noL, C.noL, S.noL, R.noL, Option.map, true_and, and_true, ge_iff_le, gt_iff_lt, implies_true, q_ite_t, q_ite_f, beq_iff_eq, bne_iff_ne, q_ne, Nat.reduceAdd, Nat.reducePow, Int.reducePow, Nat.reduceMul, Nat.reduceSub, Nat.reduceLeDiff, Nat.reduceLT, Nat.reduceEqDiff, Int.reduceNeg, Int.reduceLT, Int.reduceLE, Int.reduceEq, Int.reduceNe, Int.reduceAdd, Int.reduceSub, Int.reduceMul, Int.reduceToNat, Int.reduceBEq, Int.reduceBNe, df76, TSp, spanG, memF_eq H, spanM, setM_self H, hh, H.hb, MW, hcl, hj, hd, c5, hs, ho, c2, hsub, hmin, hlay, wc_known, wc_takes, wc_all, Int.toNat_natCast]
      exact hS
    | false =>
      have hS := q2 hh
      simp (config := { maxSteps := 10000000 }) only [EV1, EV2, EV3, EV4, EV5, EV6, addT, istep, pickR, putD, bin1R, un1R, slcR, bnd, capsOf, fillP, V.plain, V.cells, V.known, C.v, blk, setL, setH, eqS, eq1, cmpS, cmp1, isNil, popTo, killT, setT, leT, V.below, S.below, R.below, V.val, C.val, S.val, R.val, R.takes, vals, shows, unnamed, V.kill, V.names, C.names, S.names, R.names, List.set, List.replicate, ↓q_cond_t, ↓q_cond_f, if_true, if_false, reduceCtorEq, rvals, rvC, result, C.known, V.noL, C.noL, S.noL, R.noL, Option.map, true_and, and_true, ge_iff_le, gt_iff_lt, implies_true, q_ite_t, q_ite_f, beq_iff_eq, bne_iff_ne, q_ne, Nat.reduceAdd, Nat.reducePow, Int.reducePow, Nat.reduceMul, Nat.reduceSub, Nat.reduceLeDiff, Nat.reduceLT, Nat.reduceEqDiff, Int.reduceNeg, Int.reduceLT, Int.reduceLE, Int.reduceEq, Int.reduceNe, Int.reduceAdd, Int.reduceSub, Int.reduceMul, Int.reduceToNat, Int.reduceBEq, Int.reduceBNe, df76, TSp, spanG, memF_eq H, spanM, setM_self H, hh]
      exact hS
end Go.Proofs.Ythegocjfnjfkdaa

/- Lists of words: the document's Load, Same. -/
namespace Go.Proofs.Ythegocjfnjfkdaa
open Go.D
set_option linter.all false
set_option maxRecDepth 100000
set_option maxHeartbeats 4000000

theorem take_snoc {vs : List Int} {q : Nat} (h : q < vs.length) : vs.take (q + 1) = vs.take q ++ [nth 0 vs q] := by
  rw [List.take_succ_eq_append_getElem h, nth_eq h]
theorem rload_snd : Snd Try.prog 77 (FSpec.of loadG) := snd_run TSp_snd mixed Try.func77 dc77 100 fun args h K hc hS => by
  obtain ⟨a, x, s, b, m, vs, rfl, H, HL, hap, hu, q1, q2⟩ := loadG_spec hS
  clear hS
  have hl := m.l
  rcases HL with ⟨rfl, rfl⟩ | ⟨j, o, c, B, rfl, hj, hd, hle, hs⟩
  · cases hh : m.has x 0 with
    | true =>
      have hS := q1 hh
      rw [M.lay, setM_self H] at hS
      simp (config := { maxSteps := 10000000 }) only [EV1, EV2, EV3, EV4, EV5, EV6, addT, istep, pickR, putD, bin1R, un1R, slcR, bnd, capsOf, fillP, V.plain, V.cells, V.known, C.v, blk, setL, setH, eqS, eq1, cmpS, cmp1, isNil, popTo, killT, setT, leT, V.below, S.below, R.below, V.val, C.val, S.val, R.val, R.takes, vals, shows, unnamed, V.kill, V.names, C.names, S.names, R.names, List.set, List.replicate, ↓q_cond_t, ↓q_cond_f, if_true, if_false, reduceCtorEq, rvals, rvC, result, C.known, V.noL, C.noL, S.noL, R.noL, Option.map, true_and, and_true, ge_iff_le, gt_iff_lt, implies_true, q_ite_t, q_ite_f, beq_iff_eq, bne_iff_ne, q_ne, Nat.reduceAdd, Nat.reducePow, Int.reducePow, Nat.reduceMul, Nat.reduceSub, Nat.reduceLeDiff, Nat.reduceLT, Nat.reduceEqDiff, Int.reduceNeg, Int.reduceLT, Int.reduceLE, Int.reduceEq, Int.reduceNe, Int.reduceAdd, Int.reduceSub, Int.reduceMul, Int.reduceToNat, Int.reduceBEq, Int.reduceBNe, df77, TSp, thereG, memF_eq H, thereM, setM_self H, hh]
      rw [holds_loop]
      refine swp_loop fun X hX => ?_
      refine hX _ ?_
      refine run_sound (Tab.ok_Γ _) 100 _ _ _ _ ?_
      simp (config := { maxSteps := 10000000 }) only [EV1, EV2, EV3, EV4, EV5, EV6, addT, istep, pickR, putD, bin1R, un1R, slcR, bnd, capsOf, fillP, V.plain, V.cells, V.known, C.v, blk, setL, setH, eqS, eq1, cmpS, cmp1, isNil, popTo, killT, setT, leT, V.below, S.below, R.below, V.val, C.val, S.val, R.val, R.takes, vals, shows, unnamed, V.kill, V.names, C.names, S.names, R.names, List.set, List.replicate, ↓q_cond_t, ↓q_cond_f, if_true, if_false, reduceCtorEq, rvals, rvC, result, C.known, V.noL, C.noL, S.noL, R.noL, Option.map, true_and, and_true, ge_iff_le, gt_iff_lt, implies_true, q_ite_t, q_ite_f, beq_iff_eq, bne_iff_ne, q_ne, Nat.reduceAdd, Nat.reducePow, Int.reducePow, Nat.reduceMul, Nat.reduceSub, Nat.reduceLeDiff, Nat.reduceLT, Nat.reduceEqDiff, Int.reduceNeg, Int.reduceLT, Int.reduceLE, Int.reduceEq, Int.reduceNe, Int.reduceAdd, Int.reduceSub, Int.reduceMul, Int.reduceToNat, Int.reduceBEq, Int.reduceBNe, Int.lt_irrefl]
      exact hS
    | false =>
      have hS := q2 hh
      simp (config := { maxSteps := 10000000 }) only [EV1, EV2, EV3, EV4, EV5, EV6, addT, istep, pickR, putD, bin1R, un1R, slcR, bnd, capsOf, fillP, V.plain, V.cells, V.known, C.v, blk, setL, setH, eqS, eq1, cmpS, cmp1, isNil, popTo, killT, setT, leT, V.below, S.below, R.below, V.val, C.val, S.val, R.val, R.takes, vals, shows, unnamed, V.kill, V.names, C.names, S.names, R.names, List.set, List.replicate, ↓q_cond_t, ↓q_cond_f, if_true, if_false, reduceCtorEq, rvals, rvC, result, C.known, V.noL, C.noL, S.noL, R.noL, Option.map, true_and, and_true, ge_iff_le, gt_iff_lt, implies_true, q_ite_t, q_ite_f, beq_iff_eq, bne_iff_ne, q_ne, Nat.reduceAdd, Nat.reducePow, Int.reducePow, Nat.reduceMul, Nat.reduceSub, Nat.reduceLeDiff, Nat.reduceLT, Nat.reduceEqDiff, Int.reduceNeg, Int.reduceLT, Int.reduceLE, Int.reduceEq, Int.reduceNe, Int.reduceAdd, Int.reduceSub, Int.reduceMul, Int.reduceToNat, Int.reduceBEq, Int.reduceBNe, df77, TSp, thereG, memF_eq H, thereM, setM_self H, hh]
      exact hS
  · have hap : j ≠ b := hap
    cases hh : m.has x vs.length with
    | true =>
      have hS := q1 hh
      obtain ⟨i, n, rfl, e, hij⟩ := M.has_nat hh
      have e : vs.length = n := by omega
      simp only [Int.toNat_natCast] at hS
      simp (config := { maxSteps := 10000000 }) only [EV1, EV2, EV3, EV4, EV5, EV6, addT, istep, pickR, putD, bin1R, un1R, slcR, bnd, capsOf, fillP, V.plain, V.cells, V.known, C.v, blk, setL, setH, eqS, eq1, cmpS, cmp1, isNil, popTo, killT, setT, leT, V.below, S.below, R.below, V.val, C.val, S.val, R.val, R.takes, vals, shows, unnamed, V.kill, V.names, C.names, S.names, R.names, List.set, List.replicate, ↓q_cond_t, ↓q_cond_f, if_true, if_false, reduceCtorEq, rvals, rvC, result, C.known, V.noL, C.noL, S.noL, R.noL, Option.map, true_and, and_true, ge_iff_le, gt_iff_lt, implies_true, q_ite_t, q_ite_f, beq_iff_eq, bne_iff_ne, q_ne, Nat.reduceAdd, Nat.reducePow, Int.reducePow, Nat.reduceMul, Nat.reduceSub, Nat.reduceLeDiff, Nat.reduceLT, Nat.reduceEqDiff, Int.reduceNeg, Int.reduceLT, Int.reduceLE, Int.reduceEq, Int.reduceNe, Int.reduceAdd, Int.reduceSub, Int.reduceMul, Int.reduceToNat, Int.reduceBEq, Int.reduceBNe, df77, TSp, thereG, memF_eq H, thereM, setM_self H, hh]
      refine loop_rule (α := Nat) [8, 16, 17, 18, 19, 20, 21, 22, 23, 24, 25, 26, 27, 28, 29, 30, 31, 32, 33] (fun q => [(8, .s (.i .i64 q))]) (fun _ => []) (fun q => h.set b ⟨.rw, wc (m.lay i (vs.take q)).w, m.w.length⟩) (fun q => q ≤ vs.length) (fun q => vs.length - q) 0 (by omega) ?_ ?_
      · simp only [List.take_zero, M.lay]
        rw [show (⟨.rw, wc m.w, m.w.length⟩ : Blk) = MW m from rfl, set_self H.hb]
        refine Wk.less ?_
        simp (config := { maxSteps := 10000000 }) only [EV1, EV2, EV3, EV4, EV5, EV6, addT, istep, pickR, putD, bin1R, un1R, slcR, bnd, capsOf, fillP, V.plain, V.cells, V.known, C.v, blk, setL, setH, eqS, eq1, cmpS, cmp1, isNil, popTo, killT, setT, leT, V.below, S.below, R.below, V.val, C.val, S.val, R.val, R.takes, vals, shows, unnamed, V.kill, V.names, C.names, S.names, R.names, List.set, List.replicate, ↓q_cond_t, ↓q_cond_f, if_true, if_false, reduceCtorEq, rvals, rvC, result, C.known, V.noL, C.noL, S.noL, R.noL, Option.map, true_and, and_true, ge_iff_le, gt_iff_lt, implies_true, q_ite_t, q_ite_f, beq_iff_eq, bne_iff_ne, q_ne, Nat.reduceAdd, Nat.reducePow, Int.reducePow, Nat.reduceMul, Nat.reduceSub, Nat.reduceLeDiff, Nat.reduceLT, Nat.reduceEqDiff, Int.reduceNeg, Int.reduceLT, Int.reduceLE, Int.reduceEq, Int.reduceNe, Int.reduceAdd, Int.reduceSub, Int.reduceMul, Int.reduceToNat, Int.reduceBEq, Int.reduceBNe, q_cast, Int.natCast_zero]
      · intro X q hq IH
        rcases Nat.lt_or_ge q vs.length with h1 | h1
        · obtain ⟨d1, d2, d3, d4⟩ := idx h1 (by omega)
          have c3 : (h.set b ⟨BK.rw, wc (m.lay i (vs.take q)).w, m.w.length⟩)[b]? = some ⟨BK.rw, wc (m.lay i (vs.take q)).w, m.w.length⟩ := set_hit H.hb
          have c4 : i + q + 1 ≤ (wc (m.lay i (vs.take q)).w).length := by rw [wc_len, M.lay_len]; omega
          have g := IsList.get hs h1 rfl
          have hv : u64 (nth 0 vs q) := hu _ (nth_mem h1)
          have c5 : ((wc (m.lay i (vs.take q)).w).set (i + q) (S.i .u64 (nth 0 vs q))) = wc (m.lay i (vs.take (q + 1))).w := by
            rw [wc_set, take_snoc h1, M.lay_snoc, show (vs.take q).length = q by simp; omega]; simp only [M.put, uw_of hv]
          have hjm : (h.set b ⟨BK.rw, wc (m.lay i (vs.take q)).w, m.w.length⟩)[j]? = some B := by rw [set_miss (Ne.symm hap)]; exact hj
          have ha := H.ha'
          have w1 : IntKind.i64.wrap ((i : Int) + q) = ((i + q : Nat) : Int) := by rw [wrap64] <;> omega
          have d5 : ((i + q : Nat) : Int) < m.w.length := by omega
          have d6 : (0 : Int) ≤ ((i + q : Nat) : Int) := by omega
          refine run_sound (Tab.ok_Γ _) 100 _ _ _ _ ?_
          simp (config := { maxSteps := 10000000 }) only [EV1, EV2, EV3, EV4, EV5, EV6, addT, istep, pickR, putD, bin1R, un1R, slcR, bnd, capsOf, fillP, V.plain, V.cells, V.known, C.v, blk, setL, setH, eqS, eq1, cmpS, cmp1, isNil, popTo, killT, setT, leT, V.below, S.below, R.below, V.val, C.val, S.val, R.val, R.takes, vals, shows, unnamed, V.kill, V.names, C.names, S.names, R.names, List.set, List.replicate, ↓q_cond_t, ↓q_cond_f, if_true, if_false, reduceCtorEq, rvals, rvC, result, C.known, V.noL, C.noL, S.noL, R.noL, Option.map, true_and, and_true, ge_iff_le, gt_iff_lt, implies_true, q_ite_t, q_ite_f, beq_iff_eq, bne_iff_ne, q_ne, Nat.reduceAdd, Nat.reducePow, Int.reducePow, Nat.reduceMul, Nat.reduceSub, Nat.reduceLeDiff, Nat.reduceLT, Nat.reduceEqDiff, Int.reduceNeg, Int.reduceLT, Int.reduceLE, Int.reduceEq, Int.reduceNe, Int.reduceAdd, Int.reduceSub, Int.reduceMul, Int.reduceToNat, Int.reduceBEq, Int.reduceBNe, d1, d2, d3, d4, d5, d6, w1, c3, ha, MB, hjm, hd, g, c4, Int.toNat_natCast, put, c5, List.set_set]
          exact IH (q + 1) _ (by omega) (by omega) (Wk.same rfl rfl (by simp (config := { maxSteps := 10000000 }) only [EV1, EV2, EV3, EV4, EV5, EV6, addT, istep, pickR, putD, bin1R, un1R, slcR, bnd, capsOf, fillP, V.plain, V.cells, V.known, C.v, blk, setL, setH, eqS, eq1, cmpS, cmp1, isNil, popTo, killT, setT, leT, V.below, S.below, R.below, V.val, C.val, S.val, R.val, R.takes, vals, shows, unnamed, V.kill, V.names, C.names, S.names, R.names, List.set, List.replicate, ↓q_cond_t, ↓q_cond_f, if_true, if_false, reduceCtorEq, rvals, rvC, result, C.known, V.noL, C.noL, S.noL, R.noL, Option.map, true_and, and_true, ge_iff_le, gt_iff_lt, implies_true, q_ite_t, q_ite_f, beq_iff_eq, bne_iff_ne, q_ne, Nat.reduceAdd, Nat.reducePow, Int.reducePow, Nat.reduceMul, Nat.reduceSub, Nat.reduceLeDiff, Nat.reduceLT, Nat.reduceEqDiff, Int.reduceNeg, Int.reduceLT, Int.reduceLE, Int.reduceEq, Int.reduceNe, Int.reduceAdd, Int.reduceSub, Int.reduceMul, Int.reduceToNat, Int.reduceBEq, Int.reduceBNe]))
        · have : q = vs.length := by omega
          subst this
          refine run_sound (Tab.ok_Γ _) 100 _ _ _ _ ?_
          simp (config := { maxSteps := 10000000 }) only [EV1, EV2, EV3, EV4, EV5, EV6, addT, istep, pickR, putD, bin1R, un1R, slcR, bnd, capsOf, fillP, V.plain, V.cells, V.known, C.v, blk, setL, setH, eqS, eq1, cmpS, cmp1, isNil, popTo, killT, setT, leT, V.below, S.below, R.below, V.val, C.val, S.val, R.val, R.takes, vals, shows, unnamed, V.kill, V.names, C.names, S.names, R.names, List.set, List.replicate, ↓q_cond_t, ↓q_cond_f, if_true, if_false, reduceCtorEq, rvals, rvC, result, C.known, V.noL, C.noL, S.noL, R.noL, Option.map, true_and, and_true, ge_iff_le, gt_iff_lt, implies_true, q_ite_t, q_ite_f, beq_iff_eq, bne_iff_ne, q_ne, Nat.reduceAdd, Nat.reducePow, Int.reducePow, Nat.reduceMul, Nat.reduceSub, Nat.reduceLeDiff, Nat.reduceLT, Nat.reduceEqDiff, Int.reduceNeg, Int.reduceLT, Int.reduceLE, Int.reduceEq, Int.reduceNe, Int.reduceAdd, Int.reduceSub, Int.reduceMul, Int.reduceToNat, Int.reduceBEq, Int.reduceBNe, Int.lt_irrefl]
          refine cast (congrArg (K _) ?_) hS
          rw [List.take_length, ← setM_words H (M.lay_len vs m i) (M.lay_n vs m i)]
          simp only [MW, M.lay_len]
    | false =>
      have hS := q2 hh
      simp (config := { maxSteps := 10000000 }) only [EV1, EV2, EV3, EV4, EV5, EV6, addT, istep, pickR, putD, bin1R, un1R, slcR, bnd, capsOf, fillP, V.plain, V.cells, V.known, C.v, blk, setL, setH, eqS, eq1, cmpS, cmp1, isNil, popTo, killT, setT, leT, V.below, S.below, R.below, V.val, C.val, S.val, R.val, R.takes, vals, shows, unnamed, V.kill, V.names, C.names, S.names, R.names, List.set, List.replicate, ↓q_cond_t, ↓q_cond_f, if_true, if_false, reduceCtorEq, rvals, rvC, result, C.known, V.noL, C.noL, S.noL, R.noL, Option.map, true_and, and_true, ge_iff_le, gt_iff_lt, implies_true, q_ite_t, q_ite_f, beq_iff_eq, bne_iff_ne, q_ne, Nat.reduceAdd, Nat.reducePow, Int.reducePow, Nat.reduceMul, Nat.reduceSub, Nat.reduceLeDiff, Nat.reduceLT, Nat.reduceEqDiff, Int.reduceNeg, Int.reduceLT, Int.reduceLE, Int.reduceEq, Int.reduceNe, Int.reduceAdd, Int.reduceSub, Int.reduceMul, Int.reduceToNat, Int.reduceBEq, Int.reduceBNe, df77, TSp, thereG, memF_eq H, thereM, setM_self H, hh]
      exact hS

noncomputable def sameWG : List V → List Blk → Res
  | [.s x, .s y], h => match listOf h x, listOf h y with
    | some v, some w => .ob (v.length ≤ 8796093022208 ∧ w.length ≤ 8796093022208) (.ok (.s (.b (decide (v = w)))) [] h)
    | _, _ => .bad
  | _, _ => .bad
theorem sameWG_spec {args : List V} {h : List Blk} {K : V → List Blk → Prop} (hS : (sameWG args h).spec K) : ∃ x y v w, args = [.s x, .s y] ∧ IsList h x v ∧ IsList h y w ∧ v.length ≤ 8796093022208 ∧ w.length ≤ 8796093022208 ∧ K (.s (.b (decide (v = w)))) h := by
  unfold sameWG at hS
  split at hS
  · split at hS
    · rename_i e1 e2
      exact ⟨_, _, _, _, rfl, listOf_some e1, listOf_some e2, hS.1.1, hS.1.2, hS.2⟩
    · exact hS.elim
  · exact hS.elim
theorem nil_of {v : List Int} (h : v.length = 0) : v = [] := List.eq_nil_of_length_eq_zero h
theorem take_ne {v w : List Int} {q : Nat} (h : q < v.length) (h' : q < w.length) (e : ¬ nth 0 v q = nth 0 w q) : v ≠ w := fun x => by subst x; exact e rfl
theorem eq_of_nth {v w : List Int} (hl : v.length = w.length) (h : ∀ i, i < v.length → nth 0 v i = nth 0 w i) : v = w :=
  List.ext_getElem hl fun i h1 h2 => by have := h i h1; rwa [nth_eq h1, nth_eq h2] at this
theorem sameW_snd : Snd Try.prog 44 (FSpec.of sameWG) := snd_run (noT_snd _) mixed Try.func44 dc44 100 fun args h K hc hS => by
  obtain ⟨x, y, v, w, rfl, Hx, Hy, lx, ly, hK⟩ := sameWG_spec hS
  clear hS
  have key : ∀ (x y : S) (n : Nat), v.length = n → (x = .ns ∧ n = 0 ∨ ∃ j o c B, x = .sl (.g j) o n c ∧ h[j]? = some B ∧ B.st ≠ .dead ∧ sub B.cells o n = wc v) → True := fun _ _ _ _ _ => trivial
  rcases Hx with ⟨rfl, rfl⟩ | ⟨j, o, c, B, rfl, hj, hd, hle, hs⟩
  · rcases Hy with ⟨rfl, rfl⟩ | ⟨j2, o2, c2, B2, rfl, hj2, hd2, hle2, hs2⟩
    · simp only [decide_true] at hK
      simp (config := { maxSteps := 10000000 }) only [EV1, EV2, EV3, EV4, EV5, EV6, addT, istep, pickR, putD, bin1R, un1R, slcR, bnd, capsOf, fillP, V.plain, V.cells, V.known, C.v, blk, setL, setH, eqS, eq1, cmpS, cmp1, isNil, popTo, killT, setT, leT, V.below, S.below, R.below, V.val, C.val, S.val, R.val, R.takes, vals, shows, unnamed, V.kill, V.names, C.names, S.names, R.names, List.set, List.replicate, ↓q_cond_t, ↓q_cond_f, if_true, if_false, reduceCtorEq, rvals, rvC, result, C.known, V.noL, C.noL, S.noL, R.noL, Option.map, true_and, and_true, ge_iff_le, gt_iff_lt, implies_true, q_ite_t, q_ite_f, beq_iff_eq, bne_iff_ne, q_ne, Nat.reduceAdd, Nat.reducePow, Int.reducePow, Nat.reduceMul, Nat.reduceSub, Nat.reduceLeDiff, Nat.reduceLT, Nat.reduceEqDiff, Int.reduceNeg, Int.reduceLT, Int.reduceLE, Int.reduceEq, Int.reduceNe, Int.reduceAdd, Int.reduceSub, Int.reduceMul, Int.reduceToNat, Int.reduceBEq, Int.reduceBNe, df44]
      rw [holds_loop]
      refine swp_loop fun X hX => ?_
      refine hX _ ?_
      refine run_sound (Tab.ok_Γ _) 100 _ _ _ _ ?_
      simp (config := { maxSteps := 10000000 }) only [EV1, EV2, EV3, EV4, EV5, EV6, addT, istep, pickR, putD, bin1R, un1R, slcR, bnd, capsOf, fillP, V.plain, V.cells, V.known, C.v, blk, setL, setH, eqS, eq1, cmpS, cmp1, isNil, popTo, killT, setT, leT, V.below, S.below, R.below, V.val, C.val, S.val, R.val, R.takes, vals, shows, unnamed, V.kill, V.names, C.names, S.names, R.names, List.set, List.replicate, ↓q_cond_t, ↓q_cond_f, if_true, if_false, reduceCtorEq, rvals, rvC, result, C.known, V.noL, C.noL, S.noL, R.noL, Option.map, true_and, and_true, ge_iff_le, gt_iff_lt, implies_true, q_ite_t, q_ite_f, beq_iff_eq, bne_iff_ne, q_ne, Nat.reduceAdd, Nat.reducePow, Int.reducePow, Nat.reduceMul, Nat.reduceSub, Nat.reduceLeDiff, Nat.reduceLT, Nat.reduceEqDiff, Int.reduceNeg, Int.reduceLT, Int.reduceLE, Int.reduceEq, Int.reduceNe, Int.reduceAdd, Int.reduceSub, Int.reduceMul, Int.reduceToNat, Int.reduceBEq, Int.reduceBNe, Int.lt_irrefl]
      exact hK
    · by_cases hn : w.length = 0
      · obtain rfl := nil_of hn
        simp only [decide_true] at hK
        simp (config := { maxSteps := 10000000 }) only [EV1, EV2, EV3, EV4, EV5, EV6, addT, istep, pickR, putD, bin1R, un1R, slcR, bnd, capsOf, fillP, V.plain, V.cells, V.known, C.v, blk, setL, setH, eqS, eq1, cmpS, cmp1, isNil, popTo, killT, setT, leT, V.below, S.below, R.below, V.val, C.val, S.val, R.val, R.takes, vals, shows, unnamed, V.kill, V.names, C.names, S.names, R.names, List.set, List.replicate, ↓q_cond_t, ↓q_cond_f, if_true, if_false, reduceCtorEq, rvals, rvC, result, C.known, V.noL, C.noL, S.noL, R.noL, Option.map, true_and, and_true, ge_iff_le, gt_iff_lt, implies_true, q_ite_t, q_ite_f, beq_iff_eq, bne_iff_ne, q_ne, Nat.reduceAdd, Nat.reducePow, Int.reducePow, Nat.reduceMul, Nat.reduceSub, Nat.reduceLeDiff, Nat.reduceLT, Nat.reduceEqDiff, Int.reduceNeg, Int.reduceLT, Int.reduceLE, Int.reduceEq, Int.reduceNe, Int.reduceAdd, Int.reduceSub, Int.reduceMul, Int.reduceToNat, Int.reduceBEq, Int.reduceBNe, df44, q_cast, Int.natCast_zero]
        rw [holds_loop]
        refine swp_loop fun X hX => ?_
        refine hX _ ?_
        refine run_sound (Tab.ok_Γ _) 100 _ _ _ _ ?_
        simp (config := { maxSteps := 10000000 }) only [EV1, EV2, EV3, EV4, EV5, EV6, addT, istep, pickR, putD, bin1R, un1R, slcR, bnd, capsOf, fillP, V.plain, V.cells, V.known, C.v, blk, setL, setH, eqS, eq1, cmpS, cmp1, isNil, popTo, killT, setT, leT, V.below, S.below, R.below, V.val, C.val, S.val, R.val, R.takes, vals, shows, unnamed, V.kill, V.names, C.names, S.names, R.names, List.set, List.replicate, ↓q_cond_t, ↓q_cond_f, if_true, if_false, reduceCtorEq, rvals, rvC, result, C.known, V.noL, C.noL, S.noL, R.noL, Option.map, true_and, and_true, ge_iff_le, gt_iff_lt, implies_true, q_ite_t, q_ite_f, beq_iff_eq, bne_iff_ne, q_ne, Nat.reduceAdd, Nat.reducePow, Int.reducePow, Nat.reduceMul, Nat.reduceSub, Nat.reduceLeDiff, Nat.reduceLT, Nat.reduceEqDiff, Int.reduceNeg, Int.reduceLT, Int.reduceLE, Int.reduceEq, Int.reduceNe, Int.reduceAdd, Int.reduceSub, Int.reduceMul, Int.reduceToNat, Int.reduceBEq, Int.reduceBNe, Int.lt_irrefl]
        exact hK
      · have e1 : ¬ ([] = w) := fun e => hn (by rw [← e]; rfl)
        have e2 : ((0 : Int) != (w.length : Int)) = true := by rw [bne_iff_ne]; omega
        have e3 : ¬ (0 = (w.length : Int)) := by omega
        simp only [e1, decide_false] at hK
        simp (config := { maxSteps := 10000000 }) only [EV1, EV2, EV3, EV4, EV5, EV6, addT, istep, pickR, putD, bin1R, un1R, slcR, bnd, capsOf, fillP, V.plain, V.cells, V.known, C.v, blk, setL, setH, eqS, eq1, cmpS, cmp1, isNil, popTo, killT, setT, leT, V.below, S.below, R.below, V.val, C.val, S.val, R.val, R.takes, vals, shows, unnamed, V.kill, V.names, C.names, S.names, R.names, List.set, List.replicate, ↓q_cond_t, ↓q_cond_f, if_true, if_false, reduceCtorEq, rvals, rvC, result, C.known, V.noL, C.noL, S.noL, R.noL, Option.map, true_and, and_true, ge_iff_le, gt_iff_lt, implies_true, q_ite_t, q_ite_f, beq_iff_eq, bne_iff_ne, q_ne, Nat.reduceAdd, Nat.reducePow, Int.reducePow, Nat.reduceMul, Nat.reduceSub, Nat.reduceLeDiff, Nat.reduceLT, Nat.reduceEqDiff, Int.reduceNeg, Int.reduceLT, Int.reduceLE, Int.reduceEq, Int.reduceNe, Int.reduceAdd, Int.reduceSub, Int.reduceMul, Int.reduceToNat, Int.reduceBEq, Int.reduceBNe, df44, e2, e3]
        exact hK
  · rcases Hy with ⟨rfl, rfl⟩ | ⟨j2, o2, c2, B2, rfl, hj2, hd2, hle2, hs2⟩
    · by_cases hn : v.length = 0
      · obtain rfl := nil_of hn
        simp only [decide_true] at hK
        simp (config := { maxSteps := 10000000 }) only [EV1, EV2, EV3, EV4, EV5, EV6, addT, istep, pickR, putD, bin1R, un1R, slcR, bnd, capsOf, fillP, V.plain, V.cells, V.known, C.v, blk, setL, setH, eqS, eq1, cmpS, cmp1, isNil, popTo, killT, setT, leT, V.below, S.below, R.below, V.val, C.val, S.val, R.val, R.takes, vals, shows, unnamed, V.kill, V.names, C.names, S.names, R.names, List.set, List.replicate, ↓q_cond_t, ↓q_cond_f, if_true, if_false, reduceCtorEq, rvals, rvC, result, C.known, V.noL, C.noL, S.noL, R.noL, Option.map, true_and, and_true, ge_iff_le, gt_iff_lt, implies_true, q_ite_t, q_ite_f, beq_iff_eq, bne_iff_ne, q_ne, Nat.reduceAdd, Nat.reducePow, Int.reducePow, Nat.reduceMul, Nat.reduceSub, Nat.reduceLeDiff, Nat.reduceLT, Nat.reduceEqDiff, Int.reduceNeg, Int.reduceLT, Int.reduceLE, Int.reduceEq, Int.reduceNe, Int.reduceAdd, Int.reduceSub, Int.reduceMul, Int.reduceToNat, Int.reduceBEq, Int.reduceBNe, df44, q_cast, Int.natCast_zero]
        rw [holds_loop]
        refine swp_loop fun X hX => ?_
        refine hX _ ?_
        refine run_sound (Tab.ok_Γ _) 100 _ _ _ _ ?_
        simp (config := { maxSteps := 10000000 }) only [EV1, EV2, EV3, EV4, EV5, EV6, addT, istep, pickR, putD, bin1R, un1R, slcR, bnd, capsOf, fillP, V.plain, V.cells, V.known, C.v, blk, setL, setH, eqS, eq1, cmpS, cmp1, isNil, popTo, killT, setT, leT, V.below, S.below, R.below, V.val, C.val, S.val, R.val, R.takes, vals, shows, unnamed, V.kill, V.names, C.names, S.names, R.names, List.set, List.replicate, ↓q_cond_t, ↓q_cond_f, if_true, if_false, reduceCtorEq, rvals, rvC, result, C.known, V.noL, C.noL, S.noL, R.noL, Option.map, true_and, and_true, ge_iff_le, gt_iff_lt, implies_true, q_ite_t, q_ite_f, beq_iff_eq, bne_iff_ne, q_ne, Nat.reduceAdd, Nat.reducePow, Int.reducePow, Nat.reduceMul, Nat.reduceSub, Nat.reduceLeDiff, Nat.reduceLT, Nat.reduceEqDiff, Int.reduceNeg, Int.reduceLT, Int.reduceLE, Int.reduceEq, Int.reduceNe, Int.reduceAdd, Int.reduceSub, Int.reduceMul, Int.reduceToNat, Int.reduceBEq, Int.reduceBNe, Int.lt_irrefl, q_cast, Int.natCast_zero]
        exact hK
      · have e1 : ¬ (v = []) := fun e => hn (by rw [e]; rfl)
        have e2 : ((v.length : Int) != 0) = true := by rw [bne_iff_ne]; omega
        have e3 : ¬ ((v.length : Int) = 0) := by omega
        simp only [e1, decide_false] at hK
        simp (config := { maxSteps := 10000000 }) only [EV1, EV2, EV3, EV4, EV5, EV6, addT, istep, pickR, putD, bin1R, un1R, slcR, bnd, capsOf, fillP, V.plain, V.cells, V.known, C.v, blk, setL, setH, eqS, eq1, cmpS, cmp1, isNil, popTo, killT, setT, leT, V.below, S.below, R.below, V.val, C.val, S.val, R.val, R.takes, vals, shows, unnamed, V.kill, V.names, C.names, S.names, R.names, List.set, List.replicate, ↓q_cond_t, ↓q_cond_f, if_true, if_false, reduceCtorEq, rvals, rvC, result, C.known, V.noL, C.noL, S.noL, R.noL, Option.map, true_and, and_true, ge_iff_le, gt_iff_lt, implies_true, q_ite_t, q_ite_f, beq_iff_eq, bne_iff_ne, q_ne, Nat.reduceAdd, Nat.reducePow, Int.reducePow, Nat.reduceMul, Nat.reduceSub, Nat.reduceLeDiff, Nat.reduceLT, Nat.reduceEqDiff, Int.reduceNeg, Int.reduceLT, Int.reduceLE, Int.reduceEq, Int.reduceNe, Int.reduceAdd, Int.reduceSub, Int.reduceMul, Int.reduceToNat, Int.reduceBEq, Int.reduceBNe, df44, e2, e3]
        exact hK
    · by_cases hn : v.length = w.length
      · have e2 : ((v.length : Int) != (w.length : Int)) = false := by rw [hn]; simp
        simp (config := { maxSteps := 10000000 }) only [EV1, EV2, EV3, EV4, EV5, EV6, addT, istep, pickR, putD, bin1R, un1R, slcR, bnd, capsOf, fillP, V.plain, V.cells, V.known, C.v, blk, setL, setH, eqS, eq1, cmpS, cmp1, isNil, popTo, killT, setT, leT, V.below, S.below, R.below, V.val, C.val, S.val, R.val, R.takes, vals, shows, unnamed, V.kill, V.names, C.names, S.names, R.names, List.set, List.replicate, ↓q_cond_t, ↓q_cond_f, if_true, if_false, reduceCtorEq, rvals, rvC, result, C.known, V.noL, C.noL, S.noL, R.noL, Option.map, true_and, and_true, ge_iff_le, gt_iff_lt, implies_true, q_ite_t, q_ite_f, beq_iff_eq, bne_iff_ne, q_ne, Nat.reduceAdd, Nat.reducePow, Int.reducePow, Nat.reduceMul, Nat.reduceSub, Nat.reduceLeDiff, Nat.reduceLT, Nat.reduceEqDiff, Int.reduceNeg, Int.reduceLT, Int.reduceLE, Int.reduceEq, Int.reduceNe, Int.reduceAdd, Int.reduceSub, Int.reduceMul, Int.reduceToNat, Int.reduceBEq, Int.reduceBNe, df44, e2]
        refine loop_rule (α := Nat) [4, 5, 11, 12, 13, 14, 15, 16, 17, 18, 19, 20, 21, 22, 23, 24, 25] (fun q => [(5, .s (.i .i64 q))]) (fun _ => []) (fun q => h) (fun q => q ≤ v.length ∧ ∀ i, i < q → nth 0 v i = nth 0 w i) (fun q => v.length - q) 0 ⟨by omega, fun i hi => by omega⟩ ?_ ?_
        · refine Wk.less ?_
          simp (config := { maxSteps := 10000000 }) only [EV1, EV2, EV3, EV4, EV5, EV6, addT, istep, pickR, putD, bin1R, un1R, slcR, bnd, capsOf, fillP, V.plain, V.cells, V.known, C.v, blk, setL, setH, eqS, eq1, cmpS, cmp1, isNil, popTo, killT, setT, leT, V.below, S.below, R.below, V.val, C.val, S.val, R.val, R.takes, vals, shows, unnamed, V.kill, V.names, C.names, S.names, R.names, List.set, List.replicate, ↓q_cond_t, ↓q_cond_f, if_true, if_false, reduceCtorEq, rvals, rvC, result, C.known, V.noL, C.noL, S.noL, R.noL, Option.map, true_and, and_true, ge_iff_le, gt_iff_lt, implies_true, q_ite_t, q_ite_f, beq_iff_eq, bne_iff_ne, q_ne, Nat.reduceAdd, Nat.reducePow, Int.reducePow, Nat.reduceMul, Nat.reduceSub, Nat.reduceLeDiff, Nat.reduceLT, Nat.reduceEqDiff, Int.reduceNeg, Int.reduceLT, Int.reduceLE, Int.reduceEq, Int.reduceNe, Int.reduceAdd, Int.reduceSub, Int.reduceMul, Int.reduceToNat, Int.reduceBEq, Int.reduceBNe, q_cast, Int.natCast_zero]
        · rintro X q ⟨hq, hpre⟩ IH
          rcases Nat.lt_or_ge q v.length with h1 | h1
          · obtain ⟨d1, d2, d3, d4⟩ := idx h1 (by omega)
            have d5 : (q : Int) < w.length := by omega
            have g1 := IsList.get hs h1 rfl
            have g2 := IsList.get hs2 (i := q) (by omega) rfl
            by_cases hx : nth 0 v q = nth 0 w q
            · have f1 : (nth 0 v q != nth 0 w q) = false := by simpa using hx
              refine run_sound (Tab.ok_Γ _) 100 _ _ _ _ ?_
              simp (config := { maxSteps := 10000000 }) only [EV1, EV2, EV3, EV4, EV5, EV6, addT, istep, pickR, putD, bin1R, un1R, slcR, bnd, capsOf, fillP, V.plain, V.cells, V.known, C.v, blk, setL, setH, eqS, eq1, cmpS, cmp1, isNil, popTo, killT, setT, leT, V.below, S.below, R.below, V.val, C.val, S.val, R.val, R.takes, vals, shows, unnamed, V.kill, V.names, C.names, S.names, R.names, List.set, List.replicate, ↓q_cond_t, ↓q_cond_f, if_true, if_false, reduceCtorEq, rvals, rvC, result, C.known, V.noL, C.noL, S.noL, R.noL, Option.map, true_and, and_true, ge_iff_le, gt_iff_lt, implies_true, q_ite_t, q_ite_f, beq_iff_eq, bne_iff_ne, q_ne, Nat.reduceAdd, Nat.reducePow, Int.reducePow, Nat.reduceMul, Nat.reduceSub, Nat.reduceLeDiff, Nat.reduceLT, Nat.reduceEqDiff, Int.reduceNeg, Int.reduceLT, Int.reduceLE, Int.reduceEq, Int.reduceNe, Int.reduceAdd, Int.reduceSub, Int.reduceMul, Int.reduceToNat, Int.reduceBEq, Int.reduceBNe, d1, d2, d3, d4, d5, g1, g2, hj, hj2, hd, hd2, f1, hx, Int.toNat_natCast]
              exact IH (q + 1) _ (by omega) ⟨by omega, fun i hi => by
                rcases Nat.lt_or_ge i q with h2 | h2
                · exact hpre i h2
                · have : i = q := by omega
                  subst this; exact hx⟩ (Wk.same rfl rfl (by simp (config := { maxSteps := 10000000 }) only [EV1, EV2, EV3, EV4, EV5, EV6, addT, istep, pickR, putD, bin1R, un1R, slcR, bnd, capsOf, fillP, V.plain, V.cells, V.known, C.v, blk, setL, setH, eqS, eq1, cmpS, cmp1, isNil, popTo, killT, setT, leT, V.below, S.below, R.below, V.val, C.val, S.val, R.val, R.takes, vals, shows, unnamed, V.kill, V.names, C.names, S.names, R.names, List.set, List.replicate, ↓q_cond_t, ↓q_cond_f, if_true, if_false, reduceCtorEq, rvals, rvC, result, C.known, V.noL, C.noL, S.noL, R.noL, Option.map, true_and, and_true, ge_iff_le, gt_iff_lt, implies_true, q_ite_t, q_ite_f, beq_iff_eq, bne_iff_ne, q_ne, Nat.reduceAdd, Nat.reducePow, Int.reducePow, Nat.reduceMul, Nat.reduceSub, Nat.reduceLeDiff, Nat.reduceLT, Nat.reduceEqDiff, Int.reduceNeg, Int.reduceLT, Int.reduceLE, Int.reduceEq, Int.reduceNe, Int.reduceAdd, Int.reduceSub, Int.reduceMul, Int.reduceToNat, Int.reduceBEq, Int.reduceBNe]))
            · have f1 : (nth 0 v q != nth 0 w q) = true := by simpa using hx
              have e1 := take_ne h1 (by omega) hx
              simp only [e1, decide_false] at hK
              refine run_sound (Tab.ok_Γ _) 100 _ _ _ _ ?_
              simp (config := { maxSteps := 10000000 }) only [EV1, EV2, EV3, EV4, EV5, EV6, addT, istep, pickR, putD, bin1R, un1R, slcR, bnd, capsOf, fillP, V.plain, V.cells, V.known, C.v, blk, setL, setH, eqS, eq1, cmpS, cmp1, isNil, popTo, killT, setT, leT, V.below, S.below, R.below, V.val, C.val, S.val, R.val, R.takes, vals, shows, unnamed, V.kill, V.names, C.names, S.names, R.names, List.set, List.replicate, ↓q_cond_t, ↓q_cond_f, if_true, if_false, reduceCtorEq, rvals, rvC, result, C.known, V.noL, C.noL, S.noL, R.noL, Option.map, true_and, and_true, ge_iff_le, gt_iff_lt, implies_true, q_ite_t, q_ite_f, beq_iff_eq, bne_iff_ne, q_ne, Nat.reduceAdd, Nat.reducePow, Int.reducePow, Nat.reduceMul, Nat.reduceSub, Nat.reduceLeDiff, Nat.reduceLT, Nat.reduceEqDiff, Int.reduceNeg, Int.reduceLT, Int.reduceLE, Int.reduceEq, Int.reduceNe, Int.reduceAdd, Int.reduceSub, Int.reduceMul, Int.reduceToNat, Int.reduceBEq, Int.reduceBNe, d1, d2, d3, d4, d5, g1, g2, hj, hj2, hd, hd2, f1, hx, Int.toNat_natCast]
              exact hK
          · have : q = v.length := by omega
            subst this
            have e1 := eq_of_nth hn hpre
            simp only [e1, decide_true] at hK
            refine run_sound (Tab.ok_Γ _) 100 _ _ _ _ ?_
            simp (config := { maxSteps := 10000000 }) only [EV1, EV2, EV3, EV4, EV5, EV6, addT, istep, pickR, putD, bin1R, un1R, slcR, bnd, capsOf, fillP, V.plain, V.cells, V.known, C.v, blk, setL, setH, eqS, eq1, cmpS, cmp1, isNil, popTo, killT, setT, leT, V.below, S.below, R.below, V.val, C.val, S.val, R.val, R.takes, vals, shows, unnamed, V.kill, V.names, C.names, S.names, R.names, List.set, List.replicate, ↓q_cond_t, ↓q_cond_f, if_true, if_false, reduceCtorEq, rvals, rvC, result, C.known, V.noL, C.noL, S.noL, R.noL, Option.map, true_and, and_true, ge_iff_le, gt_iff_lt, implies_true, q_ite_t, q_ite_f, beq_iff_eq, bne_iff_ne, q_ne, Nat.reduceAdd, Nat.reducePow, Int.reducePow, Nat.reduceMul, Nat.reduceSub, Nat.reduceLeDiff, Nat.reduceLT, Nat.reduceEqDiff, Int.reduceNeg, Int.reduceLT, Int.reduceLE, Int.reduceEq, Int.reduceNe, Int.reduceAdd, Int.reduceSub, Int.reduceMul, Int.reduceToNat, Int.reduceBEq, Int.reduceBNe, Int.lt_irrefl]
            exact hK
      · have e1 : ¬ (v = w) := fun e => hn (by rw [e])
        have e2 : ((v.length : Int) != (w.length : Int)) = true := by rw [bne_iff_ne]; omega
        have e3 : ¬ ((v.length : Int) = (w.length : Int)) := by omega
        simp only [e1, decide_false] at hK
        simp (config := { maxSteps := 10000000 }) only [EV1, EV2, EV3, EV4, EV5, EV6, addT, istep, pickR, putD, bin1R, un1R, slcR, bnd, capsOf, fillP, V.plain, V.cells, V.known, C.v, blk, setL, setH, eqS, eq1, cmpS, cmp1, isNil, popTo, killT, setT, leT, V.below, S.below, R.below, V.val, C.val, S.val, R.val, R.takes, vals, shows, unnamed, V.kill, V.names, C.names, S.names, R.names, List.set, List.replicate, ↓q_cond_t, ↓q_cond_f, if_true, if_false, reduceCtorEq, rvals, rvC, result, C.known, V.noL, C.noL, S.noL, R.noL, Option.map, true_and, and_true, ge_iff_le, gt_iff_lt, implies_true, q_ite_t, q_ite_f, beq_iff_eq, bne_iff_ne, q_ne, Nat.reduceAdd, Nat.reducePow, Int.reducePow, Nat.reduceMul, Nat.reduceSub, Nat.reduceLeDiff, Nat.reduceLT, Nat.reduceEqDiff, Int.reduceNeg, Int.reduceLT, Int.reduceLE, Int.reduceEq, Int.reduceNe, Int.reduceAdd, Int.reduceSub, Int.reduceMul, Int.reduceToNat, Int.reduceBEq, Int.reduceBNe, df44, e2, e3]
        exact hK
end Go.Proofs.Ythegocjfnjfkdaa

/- Slots: what was put is got; the plain facts. -/
namespace Go.Proofs.Ythegocjfnjfkdaa
open Go.D
set_option linter.all false
set_option maxRecDepth 100000
set_option maxHeartbeats 4000000

theorem M.putS_len (m : M) (a : Int) (s : Slot) : (m.putS a s).w.length = m.w.length := by simp only [M.putS, M.tick_len, M.put_len]
theorem M.putS_there (m : M) (a b : Int) (s : Slot) : thereB (m.putS a s) b = thereB m b := by simp only [thereB, M.putS_len]
theorem M.putS_has (m : M) (a x k : Int) (s : Slot) : (m.putS a s).has x k = m.has x k := by simp only [M.has, M.putS_len]
theorem M.tick_there (m : M) (k b : Int) : thereB (m.tick k) b = thereB m b := rfl
theorem M.tick_slotB (m : M) (k b : Int) : (m.tick k).slotB b = m.slotB b := rfl
theorem M.tick_slotC (m : M) (k b : Int) : (m.tick k).slotC b = m.slotC b := rfl
theorem uw_0 : uw 0 = 0 := rfl
theorem M.at_putS {m : M} {a : Int} {s : Slot} (ht : thereB m a = true) (hr : slotRB s = true) {j : Int} (hj : 0 ≤ j) :
    (m.putS a s).at j = if j = a then s.cap.w0 else if j = a + 1 then s.cap.num else if j = a + 2 then s.links else if j = a + 3 then 0 else m.at j := by
  have hb := there_iff.1 ht
  obtain ⟨u0, u1, _, _⟩ := enc_back (slotRB_iff hr).1
  have u2 := links_u hr
  simp only [M.putS, M.at_tick, M.at_put, M.put_len, uw_of u0, uw_of u1, uw_of u2, uw_0]
  by_cases h0 : j = a
  · subst h0
    rw [if_neg (by omega), if_neg (by omega), if_neg (by omega), if_pos (by omega), if_pos rfl]
  · rw [if_neg h0]
    by_cases h1 : j = a + 1
    · subst h1
      rw [if_neg (by omega), if_neg (by omega), if_pos (by omega), if_pos rfl]
    · rw [if_neg h1]
      by_cases h2 : j = a + 2
      · subst h2
        rw [if_neg (by omega), if_pos (by omega), if_pos rfl]
      · rw [if_neg h2]
        by_cases h3 : j = a + 3
        · subst h3
          rw [if_pos (by omega), if_pos rfl]
        · rw [if_neg h3, if_neg (by omega), if_neg (by omega), if_neg (by omega), if_neg (by omega)]
theorem slot_back {s : Slot} (hr : slotRB s = true) : slotB s.cap.w0 s.cap.num s.links 0 = true ∧ slotC s.cap.w0 s.cap.num s.links = s := by
  obtain ⟨rc, h1, h2, h3⟩ := slotRB_iff hr
  obtain ⟨_, _, e1, e2⟩ := enc_back rc
  have e : slotC s.cap.w0 s.cap.num s.links = s := by
    obtain ⟨c, p, n, d⟩ := s
    simp only at h1 h2 h3 e2
    simp only [slotC, e2, Slot.links, Slot.mk.injEq, true_and]
    omega
  refine ⟨?_, e⟩
  have hl : s.links / 281474976710656 = 0 := by simp only [Slot.links]; omega
  simp only [slotB, e1, e, hr, hl, decide_true, Bool.true_and, beq_self_eq_true, Bool.and_true]
theorem M.putS_slot {m : M} {a : Int} {s : Slot} (ht : thereB m a = true) (hr : slotRB s = true) : (m.putS a s).slotB a = true ∧ (m.putS a s).slotC a = s := by
  have hb := there_iff.1 ht
  simp only [M.slotB, M.slotC]
  rw [M.at_putS ht hr (by omega), M.at_putS ht hr (by omega), M.at_putS ht hr (by omega), M.at_putS ht hr (by omega)]
  simp only [if_true]
  rw [if_neg (by omega), if_neg (by omega), if_neg (by omega), if_neg (by omega), if_neg (by omega), if_neg (by omega)]
  exact slot_back hr
theorem M.putS_other {m : M} {a b : Int} {s : Slot} (ht : thereB m a = true) (hr : slotRB s = true) (hb : thereB m b = true) (hn : a ≠ b) : (m.putS a s).slotB b = m.slotB b ∧ (m.putS a s).slotC b = m.slotC b := by
  have h1 := there_iff.1 ht
  have h2 := there_iff.1 hb
  rw [Int.tmod_eq_emod_of_nonneg (by omega)] at h1 h2
  have e : ∀ k : Int, 0 ≤ k → k ≤ 3 → (m.putS a s).at (b + k) = m.at (b + k) := fun k h3 h4 => by
    rw [M.at_putS ht hr (by omega), if_neg (by omega), if_neg (by omega), if_neg (by omega), if_neg (by omega)]
  have e0 := e 0 (by omega) (by omega)
  rw [Int.add_zero] at e0
  simp only [M.slotB, M.slotC, e0, e 1 (by omega) (by omega), e 2 (by omega) (by omega), e 3 (by omega) (by omega), and_self]
theorem putS_comm {m : M} {a b : Int} {s t : Slot} (ha : thereB m a = true) (hb : thereB m b = true) (hs : slotRB s = true) (ht : slotRB t = true) (hn : a ≠ b) : ((m.putS a s).putS b t).w = ((m.putS b t).putS a s).w := by
  have h1 := there_iff.1 ha
  have h2 := there_iff.1 hb
  rw [Int.tmod_eq_emod_of_nonneg (by omega)] at h1 h2
  refine eq_of_nth (by simp only [M.putS_len]) fun i hi => ?_
  have g1 : ((m.putS a s).putS b t).at i = ((m.putS b t).putS a s).at i := by
    have e1 := M.at_putS (m := m.putS a s) (a := b) (s := t) (j := (i : Int)) (by rw [M.putS_there]; exact hb) ht (by omega)
    have e2 := M.at_putS (m := m.putS b t) (a := a) (s := s) (j := (i : Int)) (by rw [M.putS_there]; exact ha) hs (by omega)
    rw [e1, e2, M.at_putS ha hs (by omega), M.at_putS hb ht (by omega)]
    by_cases k0 : (i : Int) = a ∨ (i : Int) = a + 1 ∨ (i : Int) = a + 2 ∨ (i : Int) = a + 3
    · have n0 : ¬ (i : Int) = b := by omega
      have n1 : ¬ (i : Int) = b + 1 := by omega
      have n2 : ¬ (i : Int) = b + 2 := by omega
      have n3 : ¬ (i : Int) = b + 3 := by omega
      simp only [n0, n1, n2, n3, if_false]
    · have n0 : ¬ (i : Int) = a := by omega
      have n1 : ¬ (i : Int) = a + 1 := by omega
      have n2 : ¬ (i : Int) = a + 2 := by omega
      have n3 : ¬ (i : Int) = a + 3 := by omega
      simp only [n0, n1, n2, n3, if_false]
  simpa [M.at] using g1
theorem nth_window {l : List Int} {a k i : Nat} (h : i < k) : nth 0 ((l.drop a).take k) i = nth 0 l (a + i) := by
  induction a generalizing l with
  | zero =>
    simp only [List.drop_zero, Nat.zero_add]
    induction k generalizing l i with
    | zero => omega
    | succ k ih =>
      cases l with
      | nil => rfl
      | cons x l =>
        cases i with
        | zero => rfl
        | succ i => exact ih (l := l) (by omega)
  | succ a ih =>
    cases l with
    | nil => simp [nth]
    | cons x l =>
      rw [List.drop_succ_cons, ih, show a + 1 + i = (a + i) + 1 by omega]; rfl
theorem M.window4 {m : M} {a : Int} {s : Slot} (ht : thereB m a = true) (hr : slotRB s = true) : ((m.putS a s).w.drop a.toNat).take 4 = [s.cap.w0, s.cap.num, s.links, 0] := by
  have hb := there_iff.1 ht
  refine eq_of_nth (by simp [M.putS_len]; omega) fun i hi => ?_
  have h4 : i < 4 := by simp [M.putS_len] at hi; omega
  rw [nth_window h4]
  have g := M.at_putS ht hr (j := ((a.toNat + i : Nat) : Int)) (by omega)
  simp only [M.at, Int.toNat_natCast] at g
  rw [g]
  have : i = 0 ∨ i = 1 ∨ i = 2 ∨ i = 3 := by omega
  rcases this with rfl | rfl | rfl | rfl
  · rw [if_pos (by omega)]; rfl
  · rw [if_neg (by omega), if_pos (by omega)]; rfl
  · rw [if_neg (by omega), if_neg (by omega), if_pos (by omega)]; rfl
  · rw [if_neg (by omega), if_neg (by omega), if_neg (by omega), if_pos (by omega)]; rfl
end Go.Proofs.Ythegocjfnjfkdaa

/- Law 07: awake. -/
namespace Go.Proofs.Ythegocjfnjfkdaa
open Go.D
set_option linter.all false
set_option maxRecDepth 100000
set_option maxHeartbeats 4000000

theorem memF_newA {f : Nat → M → (M → List Blk) → List V → Res} {h X : List Blk} {m : M} {rest : List V} : memF f (.s (.p (.g h.length) 0) :: rest) (memH h m ++ X) = f (h.length + 1) m (fun m => memH h m ++ X) rest := by
  rw [memF_app0 (memH_is h m), memH_fun]
theorem memF_new1A {f : Nat → M → (M → List Blk) → List V → Res} {h X : List Blk} {m k : M} {rest : List V} : memF f (.s (.p (.g h.length) 0) :: rest) (memH (memH h m) k ++ X) = f (h.length + 1) m (fun m => memH (memH h m) k ++ X) rest := by
  rw [memF_app0 (memH_is1 h m k), show setM (memH (memH h m) k) h.length (h.length + 1) = fun m => memH (memH h m) k from funext (memH_set1 h m k)]
theorem memF_new2A {f : Nat → M → (M → List Blk) → List V → Res} {h X : List Blk} {m k : M} {rest : List V} : memF f (.s (.p (.g (h.length + 2)) 0) :: rest) (memH (memH h m) k ++ X) = f (h.length + 3) k (fun k => memH (memH h m) k ++ X) rest := by
  rw [memF_app0 (memH_is2 h m k), show setM (memH (memH h m) k) (h.length + 2) (h.length + 3) = memH (memH h m) from funext (memH_set2 h m k)]

section
variable {h X : List Blk} {m : M} {k : Nat}
theorem mg0 : (memH h m ++ X)[h.length + 2]? = X[0]? := by rw [List.getElem?_append_right (by rw [memH_len]; omega), memH_len, Nat.sub_self]
theorem mg1 : (memH h m ++ X)[h.length + 2 + k]? = X[k]? := by rw [List.getElem?_append_right (by rw [memH_len]; omega), memH_len, Nat.add_sub_cancel_left]
theorem mg2 : (memH h m ++ X)[h.length + 2 + 1 + k]? = X[k + 1]? := by
  rw [List.getElem?_append_right (by rw [memH_len]; omega), memH_len]
  congr 1; omega
theorem mt1 : (memH h m ++ X).take (h.length + 2 + k) = memH h m ++ X.take k := by
  have := app_taken (h := memH h m) (r := X) (n := k)
  rwa [memH_len] at this
theorem md1 : (memH h m ++ X).drop (h.length + 2 + k) = X.drop k := by
  have := app_dropn (h := memH h m) (r := X) (n := k)
  rwa [memH_len] at this
theorem memH_clean (hc : clean h.length h = true) : clean (h.length + 2) (memH h m) = true := by
  refine clean_app hc (by omega) ?_
  simp only [clean, List.all_cons, List.all_nil, Bool.and_true, Bool.and_eq_true, MB, MW, wc_vals]
  simp [vals, S.val, R.val]
theorem memH_cleanA {n : Nat} (hc : clean h.length h = true) (hn : h.length + 2 ≤ n) (hX : clean n X = true) : clean n (memH h m ++ X) = true := clean_app (memH_clean hc) hn hX
theorem listOf_at {H : List Blk} {j c room : Nat} {st : BK} {vs : List Int} {n : Nat} (hj : H[j]? = some ⟨st, wc vs, room⟩) (hs : st ≠ .dead) (hn : vs.length = n) : listOf H (.sl (.g j) 0 n c) = some vs := by
  subst hn; exact listOf_eq (IsList.whole hj hs)
end

noncomputable def T7 : Tab := addT 39 newM (addT 41 putSG (addT 43 getSG (addT 67 emptySG (addT 68 slotRG (addT 42 dumpG (addT 40 fillG (addT 78 stepsG (addT 76 loadG (addT 44 sameWG
  (addT 75 newM (addT 77 loadG (addT 80 putSG (addT 81 getSG (addT 82 emptySG (addT 79 slotRG noT)))))))))))))))
theorem T7_snd : T7.Snd Try.prog := addT_snd ok39 new_snd (addT_snd ok41 putS_snd (addT_snd ok43 getS_snd (addT_snd ok67 emptyS_snd (addT_snd ok68 slotR_snd (addT_snd ok42 mdump_snd (addT_snd ok40 mfill_snd (addT_snd ok78 msteps_snd (addT_snd ok76 mload_snd (addT_snd ok44 sameW_snd
  (addT_snd ok75 rnew_snd (addT_snd ok77 rload_snd (addT_snd ok80 rputS_snd (addT_snd ok81 rgetS_snd (addT_snd ok82 remptyS_snd (addT_snd ok79 rslotR_snd (noT_snd _))))))))))))))))

def awake7G : List V → List Blk → Res
  | [], h => .ok (.s (.b true)) [] h
  | _, _ => .bad
def exS : Slot := ⟨⟨5, 2048, 0, 0, 0, 0, 0, 3, 0, 0, 0⟩, 1024, 0, 1⟩
def exT : Slot := ⟨capZ, 0, 0, 1⟩
theorem awake7_snd : Snd Try.prog 38 (FSpec.of awake7G) := snd_cut T7_snd mixed Try.func38 dc38 400 fun args h K hc hS => by
  unfold awake7G at hS
  split at hS
  · simp only [spec_ok] at hS
    have l0 : (M.zero 11).w.length = 2048 := M.zero_len 11
    obtain ⟨m0, hm⟩ : ∃ m, M.zero 11 = m := ⟨_, rfl⟩
    rw [hm] at l0
    have r1 : slotRB ⟨⟨5, 2048, 0, 0, 0, 0, 0, 3, 0, 0, 0⟩, 1024, 0, 1⟩ = true := by decide
    have r2 : slotRB ⟨⟨0, 0, 0, 0, 0, 0, 0, 0, 0, 0, 0⟩, 0, 0, 1⟩ = false := by decide
    have t1 : thereB m0 1028 = true := by simp only [thereB, l0]; decide
    have t2 : thereB m0 1030 = false := by simp only [thereB, l0]; decide
    have t3 : thereB m0 1032 = true := by simp only [thereB, l0]; decide
    obtain ⟨m1, h1⟩ : ∃ m, m0.putS 1028 ⟨⟨5, 2048, 0, 0, 0, 0, 0, 3, 0, 0, 0⟩, 1024, 0, 1⟩ = m := ⟨_, rfl⟩
    have sl := M.putS_slot t1 r1
    have so := M.putS_other t1 r1 t3 (by decide)
    have th : ∀ b, thereB m1 b = thereB m0 b := fun b => by rw [← h1, M.putS_there]
    have wn := M.window4 t1 r1
    have hd : m1.has 1028 4 = true := M.has_of (by rw [← h1, M.putS_len, l0]; omega)
    rw [h1] at sl so wn
    have wl : ∀ k, ((m1.tick k).w.drop (Int.toNat 1028)).take (Int.toNat 4) = [100696069, 0, 4294968320, 0] := fun k => wn
    have wl0 : (m1.w.drop (Int.toNat 1028)).take (Int.toNat 4) = [100696069, 0, 4294968320, 0] := wn
    have e1 : m1.slotB 1032 = true ∧ (m1.slotC 1032).isZ = true := by
      rw [so.1, so.2, ← hm]
      simp only [M.slotB, M.slotC, M.at_zero]
      decide
    simp (config := { maxSteps := 10000000 }) only [EV1, EV2, EV3, EV4, EV5, EV6, addT, istep, pickR, putD, bin1R, un1R, slcR, bnd, capsOf, fillP, V.plain, V.cells, V.known, C.v, blk, setL, setH, eqS, eq1, cmpS, cmp1, isNil, popTo, killT, setT, leT, V.below, S.below, R.below, V.val, C.val, S.val, R.val, R.takes, vals, shows, unnamed, V.kill, V.names, C.names, S.names, R.names, List.set, List.replicate, ↓q_cond_t, ↓q_cond_f, if_true, if_false, reduceCtorEq, rvals, rvC, result, C.known, V.noL, C.noL, S.noL, R.noL, Option.map, true_and, and_true, ge_iff_le, gt_iff_lt, implies_true, q_ite_t, q_ite_f, beq_iff_eq, bne_iff_ne, q_ne, Nat.reduceAdd, Nat.reducePow, Int.reducePow, Nat.reduceMul, Nat.reduceSub, Nat.reduceLeDiff, Nat.reduceLT, Nat.reduceEqDiff, Int.reduceNeg, Int.reduceLT, Int.reduceLE, Int.reduceEq, Int.reduceNe, Int.reduceAdd, Int.reduceSub, Int.reduceMul, Int.reduceToNat, Int.reduceBEq, Int.reduceBNe, df38, T7, newM, memF_new, memF_newA, putSG, putSM, slotF, dumpG, dumpM, getSG, getSM, emptySG, emptySM, slotRG, hm, h1, r1, r2, t1, t2, t3, th, sl.1, sl.2, e1.1, e1.2, hd, wl, wl0, M.tick_there, M.tick_slotB, M.tick_slotC, M.tick_tick, slotZ, capZ, Slot.cl, put, fillP, sub, List.take_succ_cons, List.take_zero, List.drop_zero, memH_len]
    intro c hc1
    have wl1 : (m1.w.drop 1028).take 4 = [100696069, 0, 4294968320, 0] := wn
    have hL1 : ∀ X : List Blk, listOf (memH h (m1.tick 8) ++ (⟨.rw, wc [100696069, 0, 4294968320, 0], c⟩ :: X)) (.sl (.g (h.length + 2)) 0 4 c) = some [100696069, 0, 4294968320, 0] := fun X => listOf_at (st := .rw) (room := c) (by rw [mg0]; rfl) (fun x => BK.noConfusion x) rfl
    have hL2 : ∀ B b0 b1 b2 : Blk, listOf (memH h (m1.tick 8) ++ [B, b0, b1, b2, ⟨.rw, [.i .u64 100696069, .i .u64 0, .i .u64 4294968320, .i .u64 0], 4⟩]) (.sl (.g (h.length + 2 + 1 + 3)) 0 4 4) = some [100696069, 0, 4294968320, 0] := fun B b0 b1 b2 => listOf_at (st := .rw) (room := 4) (by rw [mg2]; rfl) (fun x => BK.noConfusion x) rfl
    simp (config := { maxSteps := 10000000 }) only [EV1, EV2, EV3, EV4, EV5, EV6, addT, istep, pickR, putD, bin1R, un1R, slcR, bnd, capsOf, fillP, V.plain, V.cells, V.known, C.v, blk, setL, setH, eqS, eq1, cmpS, cmp1, isNil, popTo, killT, setT, leT, V.below, S.below, R.below, V.val, C.val, S.val, R.val, R.takes, vals, shows, unnamed, V.kill, V.names, C.names, S.names, R.names, List.set, List.replicate, ↓q_cond_t, ↓q_cond_f, if_true, if_false, reduceCtorEq, rvals, rvC, result, C.known, V.noL, C.noL, S.noL, R.noL, Option.map, true_and, and_true, ge_iff_le, gt_iff_lt, implies_true, q_ite_t, q_ite_f, beq_iff_eq, bne_iff_ne, q_ne, Nat.reduceAdd, Nat.reducePow, Int.reducePow, Nat.reduceMul, Nat.reduceSub, Nat.reduceLeDiff, Nat.reduceLT, Nat.reduceEqDiff, Int.reduceNeg, Int.reduceLT, Int.reduceLE, Int.reduceEq, Int.reduceNe, Int.reduceAdd, Int.reduceSub, Int.reduceMul, Int.reduceToNat, Int.reduceBEq, Int.reduceBNe, T7, sameWG, wl1, R.lend, R.unlend, S.ren, C.ren, V.ren, app_taken, app_dropn, app_take0, app_drop0, List.take_succ_cons, List.take_zero, List.drop_succ_cons, List.drop_zero, Nat.not_lt_zero, Nat.lt_irrefl, Nat.add_sub_cancel_left, Nat.not_lt, Nat.le_add_right, Blk.ren, List.map_cons, List.map_nil, hL1, hL2, mt1, md1, memH_len]
    refine ⟨memH_cleanA hc (by omega) (by simp [clean, wc_vals]), ?_⟩
    show Cut _ _ _ (h ++ [_, _] ++ [_])
    rw [List.append_assoc]
    exact cut_app (Nat.le_refl _) hc rfl hS
  · exact hS.elim
end Go.Proofs.Ythegocjfnjfkdaa

/- Slots: the same specs without choices. -/
namespace Go.Proofs.Ythegocjfnjfkdaa
open Go.D
set_option linter.all false
set_option maxRecDepth 100000
set_option maxHeartbeats 4000000

def M.putE (m : M) (a : Int) (s : Slot) : Int := if thereB m a then (if slotRB s then 0 else 110) else 20
def M.putX (m : M) (a : Int) (s : Slot) : M := if thereB m a && slotRB s then m.putS a s else m
def M.getE (m : M) (a : Int) : Int := if thereB m a then (if m.slotB a then 0 else 110) else 20
def M.getV (m : M) (a : Int) : Slot := if thereB m a && m.slotB a then m.slotC a else slotZ
def M.getX (m : M) (a : Int) : M := if thereB m a then m.tick 4 else m
def M.emptyV (m : M) (a : Int) : Bool := thereB m a && (m.slotB a && (m.slotC a).isZ)
def M.loadE (m : M) (x : Int) (vs : List Int) : Int := if m.has x vs.length then 0 else 20
def M.loadX (m : M) (x : Int) (vs : List Int) : M := if m.has x vs.length then m.lay x.toNat vs else m

def put2M (b : Nat) (m : M) (st : M → List Blk) : List V → Res
  | [.s (.i .i64 a), x] => slotF (fun s => .ok (.s (.i .i64 (m.putE a s))) [] (st (m.putX a s))) [x]
  | _ => .bad
noncomputable def put2G := memF put2M
def get2M (b : Nat) (m : M) (st : M → List Blk) : List V → Res
  | [.s (.i .i64 a)] => .ok (.tup [.agg (m.getV a).cl, .s (.i .i64 (m.getE a))]) [] (st (m.getX a))
  | _ => .bad
noncomputable def get2G := memF get2M
def empty2M (b : Nat) (m : M) (st : M → List Blk) : List V → Res
  | [.s (.i .i64 a)] => .ok (.tup [.s (.b (m.emptyV a)), .s (.i .i64 (m.getE a))]) [] (st (m.getX a))
  | _ => .bad
noncomputable def empty2G := memF empty2M
noncomputable def load2G : List V → List Blk → Res
  | [.s (.p (.g a) 0), .s (.i .i64 x), .s s], h => match memOf h a, listOf h s with
    | some (b, m), some vs => .ob (apartS b s ∧ ∀ v, v ∈ vs → u64 v) (.ok (.s (.i .i64 (m.loadE x vs))) [] (setM h a b (m.loadX x vs)))
    | _, _ => .bad
  | _, _ => .bad

theorem put2_snd : Snd Try.prog 41 (FSpec.of put2G) := putS_snd.weaken fun args h K hc hS => by
  obtain ⟨a, b, m, rest, rfl, H, hS1⟩ := memF_spec hS
  clear hS
  unfold put2M at hS1
  split at hS1
  · rename_i x y
    obtain ⟨s, e, hR⟩ := slotF_spec hS1
    simp only [List.cons.injEq, and_true] at e
    subst e
    simp only [spec_ok, M.putE, M.putX] at hR
    show Res.spec K (putSG _ h)
    rw [putSG, memF_eq H]
    show Res.spec K (.br (thereB m x) (.br (slotRB s) (.ok (.s (.i .i64 0)) [] (setM h a b (m.putS x s))) (.ok (.s (.i .i64 110)) [] (setM h a b m))) (.ok (.s (.i .i64 20)) [] (setM h a b m)))
    simp only [spec_br, spec_ok]
    refine ⟨fun e => ⟨fun e1 => ?_, fun e1 => ?_⟩, fun e => ?_⟩
    · simpa only [e, e1, Bool.and_self, if_true] using hR
    · simpa only [e, e1, Bool.and_false, Bool.false_eq_true, if_true, if_false] using hR
    · simpa only [e, Bool.false_and, Bool.false_eq_true, if_false] using hR
  · exact hS1.elim
theorem rput2_snd : Snd Try.prog 80 (FSpec.of put2G) := rputS_snd.weaken fun args h K hc hS => by
  obtain ⟨a, b, m, rest, rfl, H, hS1⟩ := memF_spec hS
  clear hS
  unfold put2M at hS1
  split at hS1
  · rename_i x y
    obtain ⟨s, e, hR⟩ := slotF_spec hS1
    simp only [List.cons.injEq, and_true] at e
    subst e
    simp only [spec_ok, M.putE, M.putX] at hR
    show Res.spec K (putSG _ h)
    rw [putSG, memF_eq H]
    show Res.spec K (.br (thereB m x) (.br (slotRB s) (.ok (.s (.i .i64 0)) [] (setM h a b (m.putS x s))) (.ok (.s (.i .i64 110)) [] (setM h a b m))) (.ok (.s (.i .i64 20)) [] (setM h a b m)))
    simp only [spec_br, spec_ok]
    refine ⟨fun e => ⟨fun e1 => ?_, fun e1 => ?_⟩, fun e => ?_⟩
    · simpa only [e, e1, Bool.and_self, if_true] using hR
    · simpa only [e, e1, Bool.and_false, Bool.false_eq_true, if_true, if_false] using hR
    · simpa only [e, Bool.false_and, Bool.false_eq_true, if_false] using hR
  · exact hS1.elim
theorem get2_snd : Snd Try.prog 43 (FSpec.of get2G) := getS_snd.weaken fun args h K hc hS => by
  obtain ⟨a, b, m, rest, rfl, H, hS1⟩ := memF_spec hS
  clear hS
  unfold get2M at hS1
  split at hS1
  · rename_i x
    simp only [spec_ok, M.getE, M.getX, M.getV] at hS1
    show Res.spec K (getSG _ h)
    rw [getSG, memF_eq H]
    simp only [getSM, spec_br, spec_ok]
    refine ⟨fun e => ⟨fun e1 => ?_, fun e1 => ?_⟩, fun e => ?_⟩
    · simpa only [e, e1, Bool.and_self, if_true] using hS1
    · simpa only [e, e1, Bool.and_false, Bool.false_eq_true, if_true, if_false] using hS1
    · simpa only [e, Bool.false_and, Bool.false_eq_true, if_false] using hS1
  · exact hS1.elim
theorem rget2_snd : Snd Try.prog 81 (FSpec.of get2G) := rgetS_snd.weaken fun args h K hc hS => by
  obtain ⟨a, b, m, rest, rfl, H, hS1⟩ := memF_spec hS
  clear hS
  unfold get2M at hS1
  split at hS1
  · rename_i x
    simp only [spec_ok, M.getE, M.getX, M.getV] at hS1
    show Res.spec K (getSG _ h)
    rw [getSG, memF_eq H]
    simp only [getSM, spec_br, spec_ok]
    refine ⟨fun e => ⟨fun e1 => ?_, fun e1 => ?_⟩, fun e => ?_⟩
    · simpa only [e, e1, Bool.and_self, if_true] using hS1
    · simpa only [e, e1, Bool.and_false, Bool.false_eq_true, if_true, if_false] using hS1
    · simpa only [e, Bool.false_and, Bool.false_eq_true, if_false] using hS1
  · exact hS1.elim
theorem empty2_snd : Snd Try.prog 67 (FSpec.of empty2G) := emptyS_snd.weaken fun args h K hc hS => by
  obtain ⟨a, b, m, rest, rfl, H, hS1⟩ := memF_spec hS
  clear hS
  unfold empty2M at hS1
  split at hS1
  · rename_i x
    simp only [spec_ok, M.getE, M.getX, M.emptyV] at hS1
    show Res.spec K (emptySG _ h)
    rw [emptySG, memF_eq H]
    simp only [emptySM, spec_br, spec_ok]
    refine ⟨fun e => ⟨fun e1 => ?_, fun e1 => ?_⟩, fun e => ?_⟩
    · simpa only [e, e1, Bool.true_and, if_true] using hS1
    · simpa only [e, e1, Bool.true_and, Bool.false_and, Bool.false_eq_true, if_true, if_false] using hS1
    · simpa only [e, Bool.false_and, Bool.false_eq_true, if_false] using hS1
  · exact hS1.elim
theorem rempty2_snd : Snd Try.prog 82 (FSpec.of empty2G) := remptyS_snd.weaken fun args h K hc hS => by
  obtain ⟨a, b, m, rest, rfl, H, hS1⟩ := memF_spec hS
  clear hS
  unfold empty2M at hS1
  split at hS1
  · rename_i x
    simp only [spec_ok, M.getE, M.getX, M.emptyV] at hS1
    show Res.spec K (emptySG _ h)
    rw [emptySG, memF_eq H]
    simp only [emptySM, spec_br, spec_ok]
    refine ⟨fun e => ⟨fun e1 => ?_, fun e1 => ?_⟩, fun e => ?_⟩
    · simpa only [e, e1, Bool.true_and, if_true] using hS1
    · simpa only [e, e1, Bool.true_and, Bool.false_and, Bool.false_eq_true, if_true, if_false] using hS1
    · simpa only [e, Bool.false_and, Bool.false_eq_true, if_false] using hS1
  · exact hS1.elim
theorem load2_snd : Snd Try.prog 76 (FSpec.of load2G) := mload_snd.weaken fun args h K hc hS => by
  have hS : (load2G args h).spec K := hS
  unfold load2G at hS
  split at hS
  · rename_i a x s
    split at hS
    · rename_i b m vs e1 e2
      obtain ⟨hp, hS⟩ := hS
      simp only [spec_ok, M.loadE, M.loadX] at hS
      show Res.spec K (loadG _ h)
      simp only [loadG, e1, e2, spec_ob, spec_br, spec_ok]
      refine ⟨hp, fun e => ?_, fun e => ?_⟩
      · simpa only [e, if_true] using hS
      · have := setM_self (memOf_some e1)
        simpa only [e, Bool.false_eq_true, if_false, this] using hS
    · exact hS.elim
  · exact hS.elim
theorem rload2_snd : Snd Try.prog 77 (FSpec.of load2G) := rload_snd.weaken fun args h K hc hS => by
  have hS : (load2G args h).spec K := hS
  unfold load2G at hS
  split at hS
  · rename_i a x s
    split at hS
    · rename_i b m vs e1 e2
      obtain ⟨hp, hS⟩ := hS
      simp only [spec_ok, M.loadE, M.loadX] at hS
      show Res.spec K (loadG _ h)
      simp only [loadG, e1, e2, spec_ob, spec_br, spec_ok]
      refine ⟨hp, fun e => ?_, fun e => ?_⟩
      · simpa only [e, if_true] using hS
      · have := setM_self (memOf_some e1)
        simpa only [e, Bool.false_eq_true, if_false, this] using hS
    · exact hS.elim
  · exact hS.elim

/-- Few steps. -/
theorem steps_le {n k : Int} (h0 : 0 ≤ k) (h : k ≤ 4) : IntKind.i64.wrap (IntKind.i64.wrap (n + k) - n) ≤ 4 := by
  rw [IntKind.wrap_i64, IntKind.wrap_i64]; omega
theorem steps_0 {n : Int} : IntKind.i64.wrap (n - n) ≤ 4 := by
  rw [Int.sub_self]; decide
theorem putX_steps (m : M) (a : Int) (s : Slot) : IntKind.i64.wrap ((m.putX a s).n - m.n) ≤ 4 := by
  unfold M.putX
  split
  · exact steps_le (k := 4) (by omega) (by omega)
  · exact steps_0
theorem getX_steps (m : M) (a : Int) : IntKind.i64.wrap ((m.getX a).n - m.n) ≤ 4 := by
  unfold M.getX
  split
  · exact steps_le (k := 4) (by omega) (by omega)
  · exact steps_0

noncomputable def T8 : Tab := addT 38 awake7G (addT 39 newM (addT 41 put2G (addT 43 get2G (addT 67 empty2G (addT 68 slotRG (addT 42 dumpG (addT 40 fillG (addT 78 stepsG (addT 76 load2G (addT 44 sameWG
  (addT 75 newM (addT 77 load2G (addT 80 put2G (addT 81 get2G (addT 82 empty2G (addT 79 slotRG noT))))))))))))))))
theorem T8_snd : T8.Snd Try.prog := addT_snd ok38 awake7_snd (addT_snd ok39 new_snd (addT_snd ok41 put2_snd (addT_snd ok43 get2_snd (addT_snd ok67 empty2_snd (addT_snd ok68 slotR_snd (addT_snd ok42 mdump_snd (addT_snd ok40 mfill_snd (addT_snd ok78 msteps_snd (addT_snd ok76 load2_snd (addT_snd ok44 sameW_snd
  (addT_snd ok75 rnew_snd (addT_snd ok77 rload2_snd (addT_snd ok80 rput2_snd (addT_snd ok81 rget2_snd (addT_snd ok82 rempty2_snd (addT_snd ok79 rslotR_snd (noT_snd _)))))))))))))))))
end Go.Proofs.Ythegocjfnjfkdaa

/- Law 07: SlotsBack. -/
namespace Go.Proofs.Ythegocjfnjfkdaa
open Go.D
set_option linter.all false
set_option maxRecDepth 100000
set_option maxHeartbeats 4000000

theorem M.putX_len (m : M) (a : Int) (s : Slot) : (m.putX a s).w.length = m.w.length := by
  unfold M.putX; split
  · exact M.putS_len m a s
  · rfl
theorem M.getX_w (m : M) (a : Int) : (m.getX a).w = m.w := by
  unfold M.getX; split <;> rfl
theorem take_all {l : List Int} {n : Nat} (h : l.length = n) : l.take n = l := List.take_of_length_le (by omega)
theorem putE_ok {m : M} {a : Int} {s : Slot} : m.putE a s = 0 ↔ thereB m a = true ∧ slotRB s = true := by
  unfold M.putE
  cases thereB m a <;> cases slotRB s <;> simp
theorem mh2_len {h : List Blk} {m k : M} {X : List Blk} : (memH (memH h m) k ++ X).length = h.length + 2 + 2 + X.length := by rw [List.length_append, memH_len, memH_len]
section
variable {h X : List Blk} {m n : M} {k : Nat}
theorem nh0 : (memH (memH h m) n ++ X)[h.length + 2 + 2]? = X[0]? := by
  have := mg0 (h := memH h m) (m := n) (X := X); rwa [memH_len] at this
theorem nh1 : (memH (memH h m) n ++ X)[h.length + 2 + 2 + k]? = X[k]? := by
  have := mg1 (h := memH h m) (m := n) (X := X) (k := k); rwa [memH_len] at this
theorem nt1 : (memH (memH h m) n ++ X).take (h.length + 2 + 2 + k) = memH (memH h m) n ++ X.take k := by
  have := mt1 (h := memH h m) (m := n) (X := X) (k := k); rwa [memH_len] at this
theorem nd1 : (memH (memH h m) n ++ X).drop (h.length + 2 + 2 + k) = X.drop k := by
  have := md1 (h := memH h m) (m := n) (X := X) (k := k); rwa [memH_len] at this
theorem memH2_app : memH (memH h m) n ++ X = h ++ ([MB (h.length + 1) m, MW m] ++ ([MB (h.length + 2 + 1) n, MW n] ++ X)) := by
  show h ++ [_, _] ++ [MB ((h ++ [_, _]).length + 1) n, _] ++ X = _
  simp
end

def slot2F (f : Int → Slot → Slot → Res) : List V → Res
  | [.s (.i .i64 a), x, y] => slotF (fun s => slotF (fun t => f a s t) [y]) [x]
  | _ => .bad
theorem slot2F_spec {f : Int → Slot → Slot → Res} {args : List V} {K : V → List Blk → Prop} (h : (slot2F f args).spec K) : ∃ a s t, args = [.s (.i .i64 a), .agg s.cl, .agg t.cl] ∧ (f a s t).spec K := by
  unfold slot2F at h
  split at h
  · obtain ⟨s, e1, h⟩ := slotF_spec h
    obtain ⟨t, e2, h⟩ := slotF_spec h
    simp only [List.cons.injEq, and_true] at e1 e2
    subst e1; subst e2
    exact ⟨_, s, t, rfl, h⟩
  · exact h.elim
def slotsBackG (args : List V) (h : List Blk) : Res := slot2F (fun _ _ _ => .ok (.s (.b true)) [] h) args
theorem slotsBack_snd : Snd Try.prog 11 (FSpec.of slotsBackG) := snd_cut T8_snd mixed Try.func11 dc11 600 fun args h K hc hS => by
  obtain ⟨a, s, t, rfl, hR⟩ := slot2F_spec hS
  clear hS
  simp only [spec_ok] at hR
  have l0 : (M.zero 11).w.length = 2048 := M.zero_len 11
  have h0 : (M.zero 11).has 0 2048 = true := M.has_of (by omega)
  have u5 : u64 5 := by simp only [u64]; omega
  have l5 : (((M.zero 11).fill 0 5 2048).tick 2048).w.length = 2048 := by rw [M.tick_len, M.fill_len, l0]
  have a5 : ∀ i : Nat, i < 2048 → (((M.zero 11).fill 0 5 2048).tick 2048).at i = 5 := fun i hi => by
    rw [M.at_tick, M.at_fill, if_pos (by omega)]; exact uw_of u5
  obtain ⟨m5, e5⟩ : ∃ m, ((M.zero 11).fill 0 5 2048).tick 2048 = m := ⟨_, rfl⟩
  rw [e5] at l5 a5
  have lp := M.putX_len m5 a s
  have lq := M.putX_len m5 a t
  have ep := @putE_ok m5 a s
  have eq := @putE_ok m5 a t
  have ps : thereB m5 a = true → slotRB s = true → m5.putX a s = m5.putS a s := fun x y => by simp [M.putX, x, y]
  have pt : thereB m5 a = true → slotRB t = true → m5.putX a t = m5.putS a t := fun x y => by simp [M.putX, x, y]
  have pn : ¬ m5.putE a s = 0 → m5.putX a s = m5 := fun x => by
    rw [ep] at x
    unfold M.putX
    rw [if_neg (by simpa using x)]
  obtain ⟨p, hp⟩ : ∃ p, m5.putX a s = p := ⟨_, rfl⟩
  obtain ⟨q, hq⟩ : ∃ q, m5.putX a t = q := ⟨_, rfl⟩
  obtain ⟨g, hg⟩ : ∃ g, m5.putE a s = g := ⟨_, rfl⟩
  obtain ⟨g2, hg2⟩ : ∃ g, m5.putE a t = g := ⟨_, rfl⟩
  rw [hp] at lp pn ps
  rw [hq] at lq pt
  rw [hg] at ep pn
  rw [hg2] at eq
  have hx1 : p.has 0 2048 = true := M.has_of (by omega)
  have hx2 : q.has 0 2048 = true := M.has_of (by omega)
  have w1 := take_all (lp.trans l5)
  have w2 := take_all (lq.trans l5)
  simp only [Slot.cl]
  simp (config := { maxSteps := 10000000 }) only [EV1, EV2, EV3, EV4, EV5, EV6, addT, istep, pickR, putD, bin1R, un1R, slcR, bnd, capsOf, fillP, V.plain, V.cells, V.known, C.v, blk, setL, setH, eqS, eq1, cmpS, cmp1, isNil, popTo, killT, setT, leT, V.below, S.below, R.below, V.val, C.val, S.val, R.val, R.takes, vals, shows, unnamed, V.kill, V.names, C.names, S.names, R.names, List.set, List.replicate, ↓q_cond_t, ↓q_cond_f, if_true, if_false, reduceCtorEq, rvals, rvC, result, C.known, V.noL, C.noL, S.noL, R.noL, Option.map, true_and, and_true, ge_iff_le, gt_iff_lt, implies_true, q_ite_t, q_ite_f, beq_iff_eq, bne_iff_ne, q_ne, Nat.reduceAdd, Nat.reducePow, Int.reducePow, Nat.reduceMul, Nat.reduceSub, Nat.reduceLeDiff, Nat.reduceLT, Nat.reduceEqDiff, Int.reduceNeg, Int.reduceLT, Int.reduceLE, Int.reduceEq, Int.reduceNe, Int.reduceAdd, Int.reduceSub, Int.reduceMul, Int.reduceToNat, Int.reduceBEq, Int.reduceBNe, df11, T8, awake7G, newM, memF_new1, memF_new2, memF_new1A, memF_new2A, fillG, fillM, h0, u5, e5, put2G, put2M, slotF, slot_eta, hp, hq, hg, hg2, dumpG, dumpM, hx1, hx2, w1, w2, sub, List.take_succ_cons, List.take_zero, List.drop_zero, memH_len, put]
  intro c1 hc1 c2 hc2
  refine loop_rule (α := Nat) [6, 18, 78, 79, 80, 81, 82, 83, 84, 85, 86, 87, 88, 89, 90, 91, 92, 93, 94, 95, 96, 97, 98, 99, 100, 101] (fun i => [(18, .s (.i .i64 i))]) (fun _ => [⟨.rw, s.cl, 14⟩, ⟨.rw, t.cl, 14⟩]) (fun _ => memH (memH h p) q ++ [⟨.rw, wc p.w, c1⟩, ⟨.rw, wc q.w, c2⟩]) (fun i => i ≤ 2048) (fun i => 2048 - i) 0 (by omega) ?_ ?_
  · refine Wk.same rfl rfl ?_
    simp (config := { maxSteps := 10000000 }) only [EV1, EV2, EV3, EV4, EV5, EV6, addT, istep, pickR, putD, bin1R, un1R, slcR, bnd, capsOf, fillP, V.plain, V.cells, V.known, C.v, blk, setL, setH, eqS, eq1, cmpS, cmp1, isNil, popTo, killT, setT, leT, V.below, S.below, R.below, V.val, C.val, S.val, R.val, R.takes, vals, shows, unnamed, V.kill, V.names, C.names, S.names, R.names, List.set, List.replicate, ↓q_cond_t, ↓q_cond_f, if_true, if_false, reduceCtorEq, rvals, rvC, result, C.known, V.noL, C.noL, S.noL, R.noL, Option.map, true_and, and_true, ge_iff_le, gt_iff_lt, implies_true, q_ite_t, q_ite_f, beq_iff_eq, bne_iff_ne, q_ne, Nat.reduceAdd, Nat.reducePow, Int.reducePow, Nat.reduceMul, Nat.reduceSub, Nat.reduceLeDiff, Nat.reduceLT, Nat.reduceEqDiff, Int.reduceNeg, Int.reduceLT, Int.reduceLE, Int.reduceEq, Int.reduceNe, Int.reduceAdd, Int.reduceSub, Int.reduceMul, Int.reduceToNat, Int.reduceBEq, Int.reduceBNe, q_cast, Int.natCast_zero]
  · intro X i hi IH
    rcases Nat.lt_or_ge i 2048 with h1 | h1
    · have d1 : (i : Int) < 2048 := by omega
      have d2 : (0 : Int) ≤ i := by omega
      have w3 : IntKind.i64.wrap ((i : Int) + 1) = ((i + 1 : Nat) : Int) := by rw [wrap64] <;> omega
      have g1 := wc_get (w := p.w) (i := i) (by omega)
      by_cases hv : nth 0 p.w i = 5
      · have f1 : (nth 0 p.w i != 5) = false := by rw [hv]; rfl
        refine run_sound (Tab.ok_Γ _) 200 _ _ _ _ ?_
        simp (config := { maxSteps := 10000000 }) only [EV1, EV2, EV3, EV4, EV5, EV6, addT, istep, pickR, putD, bin1R, un1R, slcR, bnd, capsOf, fillP, V.plain, V.cells, V.known, C.v, blk, setL, setH, eqS, eq1, cmpS, cmp1, isNil, popTo, killT, setT, leT, V.below, S.below, R.below, V.val, C.val, S.val, R.val, R.takes, vals, shows, unnamed, V.kill, V.names, C.names, S.names, R.names, List.set, List.replicate, ↓q_cond_t, ↓q_cond_f, if_true, if_false, reduceCtorEq, rvals, rvC, result, C.known, V.noL, C.noL, S.noL, R.noL, Option.map, true_and, and_true, ge_iff_le, gt_iff_lt, implies_true, q_ite_t, q_ite_f, beq_iff_eq, bne_iff_ne, q_ne, Nat.reduceAdd, Nat.reducePow, Int.reducePow, Nat.reduceMul, Nat.reduceSub, Nat.reduceLeDiff, Nat.reduceLT, Nat.reduceEqDiff, Int.reduceNeg, Int.reduceLT, Int.reduceLE, Int.reduceEq, Int.reduceNe, Int.reduceAdd, Int.reduceSub, Int.reduceMul, Int.reduceToNat, Int.reduceBEq, Int.reduceBNe, d1, d2, w3, nh0, g1, f1, hv]
        exact IH (i + 1) _ (by omega) (by omega) (Wk.same rfl rfl (by simp (config := { maxSteps := 10000000 }) only [EV1, EV2, EV3, EV4, EV5, EV6, addT, istep, pickR, putD, bin1R, un1R, slcR, bnd, capsOf, fillP, V.plain, V.cells, V.known, C.v, blk, setL, setH, eqS, eq1, cmpS, cmp1, isNil, popTo, killT, setT, leT, V.below, S.below, R.below, V.val, C.val, S.val, R.val, R.takes, vals, shows, unnamed, V.kill, V.names, C.names, S.names, R.names, List.set, List.replicate, ↓q_cond_t, ↓q_cond_f, if_true, if_false, reduceCtorEq, rvals, rvC, result, C.known, V.noL, C.noL, S.noL, R.noL, Option.map, true_and, and_true, ge_iff_le, gt_iff_lt, implies_true, q_ite_t, q_ite_f, beq_iff_eq, bne_iff_ne, q_ne, Nat.reduceAdd, Nat.reducePow, Int.reducePow, Nat.reduceMul, Nat.reduceSub, Nat.reduceLeDiff, Nat.reduceLT, Nat.reduceEqDiff, Int.reduceNeg, Int.reduceLT, Int.reduceLE, Int.reduceEq, Int.reduceNe, Int.reduceAdd, Int.reduceSub, Int.reduceMul, Int.reduceToNat, Int.reduceBEq, Int.reduceBNe]))
      · have f1 : (nth 0 p.w i != 5) = true := by simpa using hv
        have hg0 : g = 0 := Classical.byContradiction fun e => hv (by
          have := a5 i h1
          rw [pn e]
          simpa [M.at] using this)
        obtain ⟨ht, hr⟩ := ep.1 hg0
        have hb := there_iff.1 ht
        have hat := M.at_putS ht hr (j := (i : Int)) (by omega)
        rw [← ps ht hr] at hat
        have hin : a ≤ (i : Int) ∧ (i : Int) < a + 4 := by
          by_cases k0 : (i : Int) = a
          · omega
          by_cases k1 : (i : Int) = a + 1
          · omega
          by_cases k2 : (i : Int) = a + 2
          · omega
          by_cases k3 : (i : Int) = a + 3
          · omega
          exfalso
          rw [if_neg k0, if_neg k1, if_neg k2, if_neg k3, a5 i h1] at hat
          exact hv (by simpa [M.at] using hat)
        have f2 : ¬ ((i : Int) < a) := by omega
        have w4 : IntKind.i64.wrap (a + 4) = a + 4 := wrap64 (by omega) (by omega)
        have f3 : ¬ (a + 4 ≤ (i : Int)) := by omega
        refine run_sound (Tab.ok_Γ _) 200 _ _ _ _ ?_
        simp (config := { maxSteps := 10000000 }) only [EV1, EV2, EV3, EV4, EV5, EV6, addT, istep, pickR, putD, bin1R, un1R, slcR, bnd, capsOf, fillP, V.plain, V.cells, V.known, C.v, blk, setL, setH, eqS, eq1, cmpS, cmp1, isNil, popTo, killT, setT, leT, V.below, S.below, R.below, V.val, C.val, S.val, R.val, R.takes, vals, shows, unnamed, V.kill, V.names, C.names, S.names, R.names, List.set, List.replicate, ↓q_cond_t, ↓q_cond_f, if_true, if_false, reduceCtorEq, rvals, rvC, result, C.known, V.noL, C.noL, S.noL, R.noL, Option.map, true_and, and_true, ge_iff_le, gt_iff_lt, implies_true, q_ite_t, q_ite_f, beq_iff_eq, bne_iff_ne, q_ne, Nat.reduceAdd, Nat.reducePow, Int.reducePow, Nat.reduceMul, Nat.reduceSub, Nat.reduceLeDiff, Nat.reduceLT, Nat.reduceEqDiff, Int.reduceNeg, Int.reduceLT, Int.reduceLE, Int.reduceEq, Int.reduceNe, Int.reduceAdd, Int.reduceSub, Int.reduceMul, Int.reduceToNat, Int.reduceBEq, Int.reduceBNe, d1, d2, w3, nh0, g1, f1, f2, f3, w4, hg0, hv]
        exact IH (i + 1) _ (by omega) (by omega) (Wk.same rfl rfl (by simp (config := { maxSteps := 10000000 }) only [EV1, EV2, EV3, EV4, EV5, EV6, addT, istep, pickR, putD, bin1R, un1R, slcR, bnd, capsOf, fillP, V.plain, V.cells, V.known, C.v, blk, setL, setH, eqS, eq1, cmpS, cmp1, isNil, popTo, killT, setT, leT, V.below, S.below, R.below, V.val, C.val, S.val, R.val, R.takes, vals, shows, unnamed, V.kill, V.names, C.names, S.names, R.names, List.set, List.replicate, ↓q_cond_t, ↓q_cond_f, if_true, if_false, reduceCtorEq, rvals, rvC, result, C.known, V.noL, C.noL, S.noL, R.noL, Option.map, true_and, and_true, ge_iff_le, gt_iff_lt, implies_true, q_ite_t, q_ite_f, beq_iff_eq, bne_iff_ne, q_ne, Nat.reduceAdd, Nat.reducePow, Int.reducePow, Nat.reduceMul, Nat.reduceSub, Nat.reduceLeDiff, Nat.reduceLT, Nat.reduceEqDiff, Int.reduceNeg, Int.reduceLT, Int.reduceLE, Int.reduceEq, Int.reduceNe, Int.reduceAdd, Int.reduceSub, Int.reduceMul, Int.reduceToNat, Int.reduceBEq, Int.reduceBNe, hg0]))
    · have : i = 2048 := by omega
      subst this
      clear IH
      have fin : ∀ J : List Blk, Cut h.length K (.s (.b true)) (h ++ J) := fun J => cut_app (Nat.le_refl _) hc rfl hR
      by_cases hg0 : g = 0
      · obtain ⟨ht, hr⟩ := ep.1 hg0
        obtain ⟨sb, sc⟩ := M.putS_slot ht hr
        have th := M.putS_there m5 a a s
        rw [← ps ht hr] at sb sc th
        rw [ht] at th
        have v1 : p.getV a = s := by simp [M.getV, th, sb, sc]
        have v2 : p.getE a = 0 := by simp [M.getE, th, sb]
        have v3 : p.getX a = p.tick 4 := by simp [M.getX, th]
        have hL1 : listOf (memH (memH h (p.tick 4)) q ++ [⟨.rw, wc p.w, c1⟩, ⟨.rw, wc q.w, c2⟩]) (.sl (.g (h.length + 2 + 2)) 0 2048 c1) = some p.w := listOf_at (st := .rw) (room := c1) (by rw [nh0]; rfl) (fun x => BK.noConfusion x) (by omega)
        have hL2 : listOf (memH (memH h (p.tick 4)) q ++ [⟨.rw, wc p.w, c1⟩, ⟨.rw, wc q.w, c2⟩]) (.sl (.g (h.length + 2 + 2 + 1)) 0 2048 c2) = some q.w := listOf_at (st := .rw) (room := c2) (by rw [nh1]; rfl) (fun x => BK.noConfusion x) (by omega)
        have b1 : p.w.length ≤ 8796093022208 := by omega
        have b2 : q.w.length ≤ 8796093022208 := by omega
        refine run_sound (Tab.ok_Γ _) 600 _ _ _ _ ?_
        simp (config := { maxSteps := 10000000 }) only [EV1, EV2, EV3, EV4, EV5, EV6, addT, istep, pickR, putD, bin1R, un1R, slcR, bnd, capsOf, fillP, V.plain, V.cells, V.known, C.v, blk, setL, setH, eqS, eq1, cmpS, cmp1, isNil, popTo, killT, setT, leT, V.below, S.below, R.below, V.val, C.val, S.val, R.val, R.takes, vals, shows, unnamed, V.kill, V.names, C.names, S.names, R.names, List.set, List.replicate, ↓q_cond_t, ↓q_cond_f, if_true, if_false, reduceCtorEq, rvals, rvC, result, C.known, V.noL, C.noL, S.noL, R.noL, Option.map, true_and, and_true, ge_iff_le, gt_iff_lt, implies_true, q_ite_t, q_ite_f, beq_iff_eq, bne_iff_ne, q_ne, Nat.reduceAdd, Nat.reducePow, Int.reducePow, Nat.reduceMul, Nat.reduceSub, Nat.reduceLeDiff, Nat.reduceLT, Nat.reduceEqDiff, Int.reduceNeg, Int.reduceLT, Int.reduceLE, Int.reduceEq, Int.reduceNe, Int.reduceAdd, Int.reduceSub, Int.reduceMul, Int.reduceToNat, Int.reduceBEq, Int.reduceBNe, T8, get2G, get2M, memF_new1A, v1, v2, v3, hg0, Slot.cl, sameWG, hL1, hL2, b1, b2, put, Int.lt_irrefl, q_cast, sub, List.take_succ_cons, List.take_zero, List.drop_zero]
        rw [memH2_app]
        refine cast (congrArg (fun x => Cut h.length K (.s (.b x)) _) ?_) (fin _)
        rw [eq_comm]
        by_cases hg2 : g2 = 0
        · obtain ⟨ht2, hr2⟩ := eq.1 hg2
          have sc2 := (M.putS_slot ht2 hr2).2
          rw [← pt ht2 hr2] at sc2
          simp only [Bool.or_eq_true, beq_iff_eq]
          right
          by_cases hst : s = t
          · subst hst
            have : p = q := by rw [ps ht hr, pt ht2 hr2]
            subst this
            simp
          · have hw : ¬ p.w = q.w := fun e => hst (by
              rw [← sc, ← sc2]
              simp only [M.slotC, M.at, e])
            simp only [hw, decide_false]
            rw [eq_comm, Bool.eq_false_iff]
            simp only [ne_eq, Bool.and_eq_true, beq_iff_eq]
            rintro ⟨x1, x2, x3, x4, x5, x6, x7, x8, x9, xa, xb, xc, xd, xe⟩
            apply hst
            obtain ⟨c, p1, p2, p3⟩ := s
            obtain ⟨d, q1, q2, q3⟩ := t
            simp only at x1 x2 x3 x4 x5 x6 x7 x8 x9 xa xb xc xd xe
            have := Cap.ext' x1 x2 x3 x4 x5 x6 x7 x8 x9 xa xb
            subst this; subst xc; subst xd; subst xe
            rfl
        · simp [hg2]
      · refine run_sound (Tab.ok_Γ _) 600 _ _ _ _ ?_
        simp (config := { maxSteps := 10000000 }) only [EV1, EV2, EV3, EV4, EV5, EV6, addT, istep, pickR, putD, bin1R, un1R, slcR, bnd, capsOf, fillP, V.plain, V.cells, V.known, C.v, blk, setL, setH, eqS, eq1, cmpS, cmp1, isNil, popTo, killT, setT, leT, V.below, S.below, R.below, V.val, C.val, S.val, R.val, R.takes, vals, shows, unnamed, V.kill, V.names, C.names, S.names, R.names, List.set, List.replicate, ↓q_cond_t, ↓q_cond_f, if_true, if_false, reduceCtorEq, rvals, rvC, result, C.known, V.noL, C.noL, S.noL, R.noL, Option.map, true_and, and_true, ge_iff_le, gt_iff_lt, implies_true, q_ite_t, q_ite_f, beq_iff_eq, bne_iff_ne, q_ne, Nat.reduceAdd, Nat.reducePow, Int.reducePow, Nat.reduceMul, Nat.reduceSub, Nat.reduceLeDiff, Nat.reduceLT, Nat.reduceEqDiff, Int.reduceNeg, Int.reduceLT, Int.reduceLE, Int.reduceEq, Int.reduceNe, Int.reduceAdd, Int.reduceSub, Int.reduceMul, Int.reduceToNat, Int.reduceBEq, Int.reduceBNe, hg0, Int.lt_irrefl, q_cast]
        rw [memH2_app]
        exact fin _
end Go.Proofs.Ythegocjfnjfkdaa

/- Law 07: SlotsApart. -/
namespace Go.Proofs.Ythegocjfnjfkdaa
open Go.D
set_option linter.all false
set_option maxRecDepth 100000
set_option maxHeartbeats 4000000

theorem M.putX_there (m : M) (a b : Int) (s : Slot) : thereB (m.putX a s) b = thereB m b := by simp only [thereB, M.putX_len]
theorem M.putX_putE (m : M) (a b : Int) (s t : Slot) : (m.putX a s).putE b t = m.putE b t := by simp only [M.putE, M.putX_there]
theorem M.getX_putE (m : M) (a b : Int) (t : Slot) : (m.getX a).putE b t = m.putE b t := by
  simp only [M.getX]; split <;> rfl
theorem M.getX_getV (m : M) (a b : Int) : (m.getX a).getV b = m.getV b := by
  simp only [M.getX]; split <;> rfl
theorem M.getX_getE (m : M) (a b : Int) : (m.getX a).getE b = m.getE b := by
  simp only [M.getX]; split <;> rfl
theorem M.getX_len (m : M) (a : Int) : (m.getX a).w.length = m.w.length := by rw [M.getX_w]
theorem M.put_get {m : M} {a : Int} {s : Slot} (h : m.putE a s = 0) : (m.putX a s).getV a = s := by
  obtain ⟨ht, hr⟩ := putE_ok.1 h
  obtain ⟨sb, sc⟩ := M.putS_slot ht hr
  simp [M.putX, ht, hr, M.getV, M.putS_there, sb, sc]
theorem M.put_get_other {m : M} {a b : Int} {t : Slot} (hb : thereB m a = true) (hn : b ≠ a) : (m.putX b t).getV a = m.getV a := by
  unfold M.putX
  split
  · rename_i h
    simp only [Bool.and_eq_true] at h
    obtain ⟨x, y⟩ := M.putS_other h.1 h.2 hb hn
    simp only [M.getV, M.putS_there, x, y]
  · rfl
theorem putX_comm (m : M) (a b : Int) (s t : Slot) (hn : a ≠ b) : ((m.putX a s).putX b t).w = ((m.putX b t).putX a s).w := by
  simp only [M.putX]
  by_cases h1 : (thereB m a && slotRB s) = true
  · by_cases h2 : (thereB m b && slotRB t) = true
    · simp only [h1, h2, if_true, M.putS_there]
      simp only [Bool.and_eq_true] at h1 h2
      exact putS_comm h1.1 h2.1 h1.2 h2.2 hn
    · simp only [h1, h2, if_true, if_false, Bool.false_eq_true, M.putS_there]
  · by_cases h2 : (thereB m b && slotRB t) = true
    · simp only [h1, h2, if_true, if_false, Bool.false_eq_true, M.putS_there]
    · simp only [h1, h2, if_false, Bool.false_eq_true]

def pairF (f : Int → Int → Slot → Slot → Res) : List V → Res
  | [.agg [.i .i64 x, .i .i64 y, .i .i64 a, .i .i64 b, .i .i64 c, .i .i64 d, .i .i64 e, .i .i64 g, .i .i64 i, .i .i64 j, .i .i64 k, .i .i64 l, .i .i64 m, .i .i64 p, .i .i64 n, .i .i64 q,
      .i .i64 a2, .i .i64 b2, .i .i64 c2, .i .i64 d2, .i .i64 e2, .i .i64 g2, .i .i64 i2, .i .i64 j2, .i .i64 k2, .i .i64 l2, .i .i64 m2, .i .i64 p2, .i .i64 n2, .i .i64 q2]] =>
    f x y ⟨⟨a, b, c, d, e, g, i, j, k, l, m⟩, p, n, q⟩ ⟨⟨a2, b2, c2, d2, e2, g2, i2, j2, k2, l2, m2⟩, p2, n2, q2⟩
  | _ => .bad
theorem pairF_spec {f : Int → Int → Slot → Slot → Res} {args : List V} {K : V → List Blk → Prop} (h : (pairF f args).spec K) : ∃ (x y : Int) (s t : Slot), args = [.agg (.i .i64 x :: .i .i64 y :: (s.cl ++ t.cl))] ∧ (f x y s t).spec K := by
  unfold pairF at h
  split at h
  · exact ⟨_, _, ⟨⟨_, _, _, _, _, _, _, _, _, _, _⟩, _, _, _⟩, ⟨⟨_, _, _, _, _, _, _, _, _, _, _⟩, _, _, _⟩, rfl, h⟩
  · exact h.elim
def slotsApartG (args : List V) (h : List Blk) : Res := pairF (fun _ _ _ _ => .ok (.s (.b true)) [] h) args
theorem slot_eqB (s : Slot) : (s.cap.ty == s.cap.ty && (s.cap.obj == s.cap.obj && (s.cap.bits == s.cap.bits && (s.cap.mark == s.cap.mark && (s.cap.guard == s.cap.guard && (s.cap.gbits == s.cap.gbits && (s.cap.badge == s.cap.badge && (s.cap.rights == s.cap.rights && (s.cap.asid == s.cap.asid && (s.cap.vaddr == s.cap.vaddr && (s.cap.line == s.cap.line && (s.prev == s.prev && (s.next == s.next && s.depth == s.depth))))))))))))) = true := by simp
theorem slotsApart_snd : Snd Try.prog 12 (FSpec.of slotsApartG) := snd_cut T8_snd mixed Try.func12 dc12 600 fun args h K hc hS => by
  obtain ⟨a, b, s, t, rfl, hR⟩ := pairF_spec hS
  clear hS
  simp only [spec_ok] at hR
  have fin : ∀ J : List Blk, Cut h.length K (.s (.b true)) (h ++ J) := fun J => cut_app (Nat.le_refl _) hc rfl hR
  have l0 : (M.zero 11).w.length = 2048 := M.zero_len 11
  simp only [Slot.cl, List.cons_append, List.nil_append]
  by_cases hab : a = b
  · have hab2 : (a == b) = true := by simpa using hab
    simp (config := { maxSteps := 10000000 }) only [EV1, EV2, EV3, EV4, EV5, EV6, addT, istep, pickR, putD, bin1R, un1R, slcR, bnd, capsOf, fillP, V.plain, V.cells, V.known, C.v, blk, setL, setH, eqS, eq1, cmpS, cmp1, isNil, popTo, killT, setT, leT, V.below, S.below, R.below, V.val, C.val, S.val, R.val, R.takes, vals, shows, unnamed, V.kill, V.names, C.names, S.names, R.names, List.set, List.replicate, ↓q_cond_t, ↓q_cond_f, if_true, if_false, reduceCtorEq, rvals, rvC, result, C.known, V.noL, C.noL, S.noL, R.noL, Option.map, true_and, and_true, ge_iff_le, gt_iff_lt, implies_true, q_ite_t, q_ite_f, beq_iff_eq, bne_iff_ne, q_ne, Nat.reduceAdd, Nat.reducePow, Int.reducePow, Nat.reduceMul, Nat.reduceSub, Nat.reduceLeDiff, Nat.reduceLT, Nat.reduceEqDiff, Int.reduceNeg, Int.reduceLT, Int.reduceLE, Int.reduceEq, Int.reduceNe, Int.reduceAdd, Int.reduceSub, Int.reduceMul, Int.reduceToNat, Int.reduceBEq, Int.reduceBNe, df12, T8, awake7G, newM, memF_new1, memF_new2, hab2, hab, sub, List.take_succ_cons, List.take_zero, List.drop_zero, List.drop_succ_cons, memH_len, put]
    have := fin ([MB (h.length + 1) (M.zero 11), MW (M.zero 11)] ++ ([MB (h.length + 2 + 1) (M.zero 11), MW (M.zero 11)] ++ []))
    rw [← memH2_app, List.append_nil] at this
    exact this
  · have hab2 : (a == b) = false := by simpa using hab
    have w0 := putX_comm (M.zero 11) a b s t hab
    obtain ⟨p, hp⟩ : ∃ p, ((M.zero 11).putX a s).putX b t = p := ⟨_, rfl⟩
    obtain ⟨q, hq⟩ : ∃ q, ((M.zero 11).putX b t).putX a s = q := ⟨_, rfl⟩
    obtain ⟨g, hg⟩ : ∃ g, (M.zero 11).putE a s = g := ⟨_, rfl⟩
    obtain ⟨g2, hg2⟩ : ∃ g, (M.zero 11).putE b t = g := ⟨_, rfl⟩
    have lp : p.w.length = 2048 := by rw [← hp, M.putX_len, M.putX_len, l0]
    have lq : q.w.length = 2048 := by rw [← hq, M.putX_len, M.putX_len, l0]
    have lp2 : ((p.getX a).getX b).w.length = 2048 := by rw [M.getX_len, M.getX_len, lp]
    have hx1 : ((p.getX a).getX b).has 0 2048 = true := M.has_of (by omega)
    have hx2 : q.has 0 2048 = true := M.has_of (by omega)
    have w1 : ((p.getX a).getX b).w.take 2048 = p.w := by rw [M.getX_w, M.getX_w]; exact take_all lp
    have w2 : q.w.take 2048 = p.w := by rw [← hp, w0, hq]; exact take_all lq
    have v1 : g = 0 → p.getV a = s := fun e => by
      rw [← hg] at e
      rw [← hp, M.put_get_other (by rw [M.putX_there]; exact (putE_ok.1 e).1) (Ne.symm hab)]
      exact M.put_get e
    have v2 : g2 = 0 → p.getV b = t := fun e => by
      rw [← hg2] at e
      rw [← hp]
      exact M.put_get (by rw [M.putX_putE]; exact e)
    have hL1 : ∀ c1 c2 : Nat, listOf (memH (memH h ((p.getX a).getX b)) q ++ [⟨.rw, wc p.w, c1⟩, ⟨.rw, wc p.w, c2⟩]) (.sl (.g (h.length + 2 + 2)) 0 2048 c1) = some p.w := fun c1 c2 => listOf_at (st := .rw) (room := c1) (by rw [nh0]; rfl) (fun x => BK.noConfusion x) (by omega)
    have hL2 : ∀ c1 c2 : Nat, listOf (memH (memH h ((p.getX a).getX b)) q ++ [⟨.rw, wc p.w, c1⟩, ⟨.rw, wc p.w, c2⟩]) (.sl (.g (h.length + 2 + 2 + 1)) 0 2048 c2) = some p.w := fun c1 c2 => listOf_at (st := .rw) (room := c2) (by rw [nh1]; rfl) (fun x => BK.noConfusion x) (by omega)
    have b1 : p.w.length ≤ 8796093022208 := by omega
    simp (config := { maxSteps := 10000000 }) only [EV1, EV2, EV3, EV4, EV5, EV6, addT, istep, pickR, putD, bin1R, un1R, slcR, bnd, capsOf, fillP, V.plain, V.cells, V.known, C.v, blk, setL, setH, eqS, eq1, cmpS, cmp1, isNil, popTo, killT, setT, leT, V.below, S.below, R.below, V.val, C.val, S.val, R.val, R.takes, vals, shows, unnamed, V.kill, V.names, C.names, S.names, R.names, List.set, List.replicate, ↓q_cond_t, ↓q_cond_f, if_true, if_false, reduceCtorEq, rvals, rvC, result, C.known, V.noL, C.noL, S.noL, R.noL, Option.map, true_and, and_true, ge_iff_le, gt_iff_lt, implies_true, q_ite_t, q_ite_f, beq_iff_eq, bne_iff_ne, q_ne, Nat.reduceAdd, Nat.reducePow, Int.reducePow, Nat.reduceMul, Nat.reduceSub, Nat.reduceLeDiff, Nat.reduceLT, Nat.reduceEqDiff, Int.reduceNeg, Int.reduceLT, Int.reduceLE, Int.reduceEq, Int.reduceNe, Int.reduceAdd, Int.reduceSub, Int.reduceMul, Int.reduceToNat, Int.reduceBEq, Int.reduceBNe, df12, T8, awake7G, newM, memF_new1, memF_new2, memF_new1A, memF_new2A, hab2, hab, put2G, put2M, get2G, get2M, slotF, slot_eta, M.putX_putE, M.getX_getV, M.getX_getE, hp, hq, hg, hg2, dumpG, dumpM, hx1, hx2, w1, w2, sameWG, hL1, hL2, b1, Slot.cl, sub, List.take_succ_cons, List.take_zero, List.drop_zero, List.drop_succ_cons, memH_len, put]
    intro c1 hc1 c2 hc2
    rw [memH2_app]
    refine cast (congrArg (fun x => Cut h.length K (.s (.b x)) _) ?_) (fin _)
    rw [eq_comm]
    by_cases e1 : g = 0
    · by_cases e2 : g2 = 0
      · rw [v1 e1, v2 e2, slot_eqB, slot_eqB]; simp
      · rw [v1 e1, slot_eqB]; simp [e2]
    · by_cases e2 : g2 = 0
      · rw [v2 e2, slot_eqB]; simp [e1]
      · simp [e1, e2]
end Go.Proofs.Ythegocjfnjfkdaa

/- Law 07: SlotsPlays: what is done on both memories. -/
namespace Go.Proofs.Ythegocjfnjfkdaa
open Go.D
set_option linter.all false
set_option maxRecDepth 100000
set_option maxHeartbeats 4000000

/-- Two memories, of the same words, and the struct that names them. -/
def bothB (h : List Blk) : Blk := ⟨.rw, [.p (.g h.length) 0, .p (.g (h.length + 2)) 0], 2⟩
def bothH (h : List Blk) (m : M) : List Blk := memH (memH h m) m ++ [bothB h]
theorem bothH_len (h : List Blk) (m : M) : (bothH h m).length = h.length + 2 + 2 + 1 := by rw [bothH, mh2_len]; rfl
theorem bothH_inj {h h' : List Blk} {m m' : M} (e : bothH h m = bothH h' m') : h = h' ∧ m = m' := by
  have hl := congrArg List.length e
  rw [bothH_len, bothH_len] at hl
  rw [bothH, bothH, memH2_app, memH2_app] at e
  obtain ⟨e1, e2⟩ := List.append_inj e (by omega)
  subst e1
  simp only [List.cons_append, List.nil_append, List.cons.injEq, MB, MW, Blk.mk.injEq, S.sl.injEq, S.i.injEq, true_and, and_true] at e2
  refine ⟨rfl, M.ext' (wc_inj e2.2.1.1) e2.1.2⟩
open Classical in
noncomputable def bothOf (H : List Blk) (c : Nat) : Option (List Blk × M) := if hx : ∃ x : List Blk × M, H = bothH x.1 x.2 ∧ c = x.1.length + 2 + 2 then some (Classical.choose hx) else none
theorem bothOf_eq (h : List Blk) (m : M) : bothOf (bothH h m) (h.length + 2 + 2) = some (h, m) := by
  have hx : ∃ x : List Blk × M, bothH h m = bothH x.1 x.2 ∧ h.length + 2 + 2 = x.1.length + 2 + 2 := ⟨(h, m), rfl, rfl⟩
  unfold bothOf
  rw [dif_pos hx]
  have := bothH_inj (Classical.choose_spec hx).1
  rw [show Classical.choose hx = (h, m) from Prod.ext this.1.symm this.2.symm]
theorem bothOf_some {H h : List Blk} {c : Nat} {m : M} (e : bothOf H c = some (h, m)) : H = bothH h m ∧ c = h.length + 2 + 2 := by
  unfold bothOf at e
  split at e
  · rename_i hx
    have := Classical.choose_spec hx
    rw [Option.some.injEq] at e
    rw [e] at this
    exact this
  · cases e
noncomputable def bothF (f : M → (M → List Blk) → List V → Res) : List V → List Blk → Res
  | .s (.p (.g c) 0) :: rest, H => match bothOf H c with
    | some (h, m) => f m (bothH h) rest
    | none => .bad
  | _, _ => .bad
theorem bothF_spec {f : M → (M → List Blk) → List V → Res} {args : List V} {H : List Blk} {K : V → List Blk → Prop} (hS : (bothF f args H).spec K) :
    ∃ h m rest, args = .s (.p (.g (h.length + 2 + 2)) 0) :: rest ∧ H = bothH h m ∧ (f m (bothH h) rest).spec K := by
  unfold bothF at hS
  split at hS
  · split at hS
    · rename_i e
      obtain ⟨e1, e2⟩ := bothOf_some e
      subst e2
      exact ⟨_, _, _, rfl, e1, hS⟩
    · exact hS.elim
  · exact hS.elim
theorem bothF_eq {f : M → (M → List Blk) → List V → Res} {h : List Blk} {m : M} {rest : List V} : bothF f (.s (.p (.g (h.length + 2 + 2)) 0) :: rest) (bothH h m) = f m (bothH h) rest := by
  simp only [bothF, bothOf_eq]

section
variable {h X : List Blk} {m n m' n' : M} {k : Nat} {B : Blk}
theorem nh2 : (memH (memH h m) n ++ (B :: X))[h.length + 2 + 2 + 1 + k]? = X[k]? := by
  rw [List.getElem?_append_right (by rw [memH_len, memH_len]; omega), memH_len, memH_len]
  rw [show h.length + 2 + 2 + 1 + k - (h.length + 2 + 2) = k + 1 by omega]; rfl
theorem nhl {j : Nat} (hj : j < h.length) : (memH (memH h m) n ++ X)[j]? = h[j]? := by rw [memH2_app, List.getElem?_append_left hj]
theorem memOf_1 : memOf (memH (memH h m) n ++ X) h.length = some (h.length + 1, m) := memOf_eq (memH_is1 h m n).app
theorem memOf_2 : memOf (memH (memH h m) n ++ X) (h.length + 2) = some (h.length + 3, n) := memOf_eq (memH_is2 h m n).app
theorem setM_1 : setM (memH (memH h m) n ++ X) h.length (h.length + 1) m' = memH (memH h m') n ++ X := by rw [setM_app (memH_is1 h m n), memH_set1]
theorem setM_2 : setM (memH (memH h m) n ++ X) (h.length + 2) (h.length + 3) n' = memH (memH h m) n' ++ X := by rw [setM_app (memH_is2 h m n), memH_set2]
theorem clean_both {c : Nat} (hc : clean c (memH (memH h m) n ++ X) = true) (hl : h.length + 4 ≤ c) : clean c (memH (memH h m') n' ++ X) = true := by
  rw [memH2_app] at hc ⊢
  simp only [clean, List.all_append, List.all_cons, List.all_nil, Bool.and_eq_true, Bool.and_true] at hc ⊢
  obtain ⟨h1, _, _, h2⟩ := hc
  refine ⟨h1, ⟨?_, wc_vals _ _ _⟩, ⟨?_, wc_vals _ _ _⟩, h2⟩
  · simp [MB, vals, S.val, R.val]; omega
  · simp [MB, vals, S.val, R.val]; omega
end

structure Op where
  addr : Int
  raw : Bool
  w0 : Int
  w1 : Int
  w2 : Int
  w3 : Int
  s : Slot
def Op.cl (o : Op) : List S := [.i .i64 o.addr, .b o.raw, .i .u64 o.w0, .i .u64 o.w1, .i .u64 o.w2, .i .u64 o.w3, .i .i64 o.s.cap.ty, .i .i64 o.s.cap.obj, .i .i64 o.s.cap.bits, .i .i64 o.s.cap.mark, .i .i64 o.s.cap.guard, .i .i64 o.s.cap.gbits, .i .i64 o.s.cap.badge, .i .i64 o.s.cap.rights, .i .i64 o.s.cap.asid, .i .i64 o.s.cap.vaddr, .i .i64 o.s.cap.line,
  .i .i64 o.s.prev, .i .i64 o.s.next, .i .i64 o.s.depth]
def Op.u (o : Op) : Prop := u64 o.w0 ∧ u64 o.w1 ∧ u64 o.w2 ∧ u64 o.w3
def M.playX (m : M) (o : Op) : M := if o.raw then m.loadX o.addr [o.w0, o.w1, o.w2, o.w3] else m.putX o.addr o.s
def playM (m : M) (st : M → List Blk) : List V → Res
  | [.agg [.i .i64 x, .b r, .i .u64 w0, .i .u64 w1, .i .u64 w2, .i .u64 w3, .i .i64 a, .i .i64 b, .i .i64 c, .i .i64 d, .i .i64 e, .i .i64 g, .i .i64 i, .i .i64 j, .i .i64 k, .i .i64 l, .i .i64 q, .i .i64 p, .i .i64 n, .i .i64 dd]] =>
    .ob (Op.u ⟨x, r, w0, w1, w2, w3, ⟨⟨a, b, c, d, e, g, i, j, k, l, q⟩, p, n, dd⟩⟩) (.ok (.s (.b true)) [] (st (m.playX ⟨x, r, w0, w1, w2, w3, ⟨⟨a, b, c, d, e, g, i, j, k, l, q⟩, p, n, dd⟩⟩)))
  | _ => .bad
theorem playM_spec {m : M} {st : M → List Blk} {args : List V} {K : V → List Blk → Prop} (h : (playM m st args).spec K) : ∃ o : Op, args = [.agg o.cl] ∧ o.u ∧ K (.s (.b true)) (st (m.playX o)) := by
  unfold playM at h
  split at h
  · exact ⟨_, rfl, h.1, h.2⟩
  · exact h.elim
noncomputable def playG := bothF playM
theorem op_eta (o : Op) : (⟨o.addr, o.raw, o.w0, o.w1, o.w2, o.w3, ⟨⟨o.s.cap.ty, o.s.cap.obj, o.s.cap.bits, o.s.cap.mark, o.s.cap.guard, o.s.cap.gbits, o.s.cap.badge, o.s.cap.rights, o.s.cap.asid, o.s.cap.vaddr, o.s.cap.line⟩, o.s.prev, o.s.next, o.s.depth⟩⟩ : Op) = o := rfl
theorem play_snd : Snd Try.prog 46 (FSpec.of playG) := snd_run T8_snd mixed Try.func46 dc46 400 fun args H K hc hS => by
  obtain ⟨h, m, rest, rfl, rfl, hS1⟩ := bothF_spec hS
  clear hS
  obtain ⟨o, rfl, hu, hR⟩ := playM_spec hS1
  clear hS1
  have hc2 : ∀ m' n' : M, clean (h.length + 2 + 2 + 1) (memH (memH h m') n' ++ [bothB h]) = true := fun m' n' => by
    rw [bothH_len] at hc
    exact clean_both hc (by omega)
  cases hr : o.raw with
  | true =>
    have hR : K (.s (.b true)) (bothH h (m.loadX o.addr [o.w0, o.w1, o.w2, o.w3])) := by simpa [M.playX, hr] using hR
    have hv : ∀ v, v ∈ [o.w0, o.w1, o.w2, o.w3] → u64 v := fun v hv => by
      simp only [List.mem_cons, List.not_mem_nil, or_false] at hv
      obtain ⟨u0, u1, u2, u3⟩ := hu
      rcases hv with rfl | rfl | rfl | rfl <;> assumption
    have hL : ∀ (m' n' : M) (B b : Blk) (X : List Blk), listOf (memH (memH h m') n' ++ (B :: b :: ⟨.rw, [.i .u64 o.w0, .i .u64 o.w1, .i .u64 o.w2, .i .u64 o.w3], 4⟩ :: X)) (.sl (.g (h.length + 2 + 2 + 1 + 1)) 0 4 4) = some [o.w0, o.w1, o.w2, o.w3] := fun m' n' B b X => listOf_at (st := .rw) (room := 4) (by rw [nh2]; rfl) (fun x => BK.noConfusion x) rfl
    have hL2 : ∀ (m' n' : M) (B b d : Blk) (X : List Blk), listOf (memH (memH h m') n' ++ (B :: b :: d :: ⟨.rw, [.i .u64 o.w0, .i .u64 o.w1, .i .u64 o.w2, .i .u64 o.w3], 4⟩ :: X)) (.sl (.g (h.length + 2 + 2 + 1 + 2)) 0 4 4) = some [o.w0, o.w1, o.w2, o.w3] := fun m' n' B b d X => listOf_at (st := .rw) (room := 4) (by rw [nh2]; rfl) (fun x => BK.noConfusion x) rfl
    have a1 : ∀ k, apartS (h.length + 1) (.sl (.g (h.length + 2 + 2 + 1 + k)) 0 4 4) := fun k => by simp only [apartS]; omega
    have a2 : ∀ k, apartS (h.length + 3) (.sl (.g (h.length + 2 + 2 + 1 + k)) 0 4 4) := fun k => by simp only [apartS]; omega
    simp only [Op.cl]
    simp (config := { maxSteps := 10000000 }) only [EV1, EV2, EV3, EV4, EV5, EV6, addT, istep, pickR, putD, bin1R, un1R, slcR, bnd, capsOf, fillP, V.plain, V.cells, V.known, C.v, blk, setL, setH, eqS, eq1, cmpS, cmp1, isNil, popTo, killT, setT, leT, V.below, S.below, R.below, V.val, C.val, S.val, R.val, R.takes, vals, shows, unnamed, V.kill, V.names, C.names, S.names, R.names, List.set, List.replicate, ↓q_cond_t, ↓q_cond_f, if_true, if_false, reduceCtorEq, rvals, rvC, result, C.known, V.noL, C.noL, S.noL, R.noL, Option.map, true_and, and_true, ge_iff_le, gt_iff_lt, implies_true, q_ite_t, q_ite_f, beq_iff_eq, bne_iff_ne, q_ne, Nat.reduceAdd, Nat.reducePow, Int.reducePow, Nat.reduceMul, Nat.reduceSub, Nat.reduceLeDiff, Nat.reduceLT, Nat.reduceEqDiff, Int.reduceNeg, Int.reduceLT, Int.reduceLE, Int.reduceEq, Int.reduceNe, Int.reduceAdd, Int.reduceSub, Int.reduceMul, Int.reduceToNat, Int.reduceBEq, Int.reduceBNe, df46, T8, bothH, bothB, nh0, hr, load2G, R.lend, R.unlend, S.ren, C.ren, V.ren, app_taken, app_dropn, app_take0, app_drop0, List.take_succ_cons, List.take_zero, List.drop_succ_cons, List.drop_zero, Nat.not_lt_zero, Nat.lt_irrefl, Nat.add_sub_cancel_left, Nat.not_lt, Nat.le_add_right, Blk.ren, List.map_cons, List.map_nil, memOf_1, memOf_2, setM_1, setM_2, hL, hL2, hv, a1, a2, nt1, nd1, memH_len, put, fillP, sub, List.take_succ_cons, List.take_zero, List.drop_zero, List.drop_succ_cons]
    exact ⟨hv, hc2 _ _, hv, hc2 _ _, hR⟩
  | false =>
    have hR : K (.s (.b true)) (bothH h (m.putX o.addr o.s)) := by simpa [M.playX, hr] using hR
    have st := putX_steps m o.addr o.s
    simp only [Op.cl]
    simp (config := { maxSteps := 10000000 }) only [EV1, EV2, EV3, EV4, EV5, EV6, addT, istep, pickR, putD, bin1R, un1R, slcR, bnd, capsOf, fillP, V.plain, V.cells, V.known, C.v, blk, setL, setH, eqS, eq1, cmpS, cmp1, isNil, popTo, killT, setT, leT, V.below, S.below, R.below, V.val, C.val, S.val, R.val, R.takes, vals, shows, unnamed, V.kill, V.names, C.names, S.names, R.names, List.set, List.replicate, ↓q_cond_t, ↓q_cond_f, if_true, if_false, reduceCtorEq, rvals, rvC, result, C.known, V.noL, C.noL, S.noL, R.noL, Option.map, true_and, and_true, ge_iff_le, gt_iff_lt, implies_true, q_ite_t, q_ite_f, beq_iff_eq, bne_iff_ne, q_ne, Nat.reduceAdd, Nat.reducePow, Int.reducePow, Nat.reduceMul, Nat.reduceSub, Nat.reduceLeDiff, Nat.reduceLT, Nat.reduceEqDiff, Int.reduceNeg, Int.reduceLT, Int.reduceLE, Int.reduceEq, Int.reduceNe, Int.reduceAdd, Int.reduceSub, Int.reduceMul, Int.reduceToNat, Int.reduceBEq, Int.reduceBNe, df46, T8, bothH, bothB, nh0, hr, memF_new1A, memF_new2A, stepsG, stepsM, put2G, put2M, slotRG, slotF, slot_eta, st, put, fillP, sub, List.take_succ_cons, List.take_zero, List.drop_zero, List.drop_succ_cons]
    exact hR
def askM (m : M) (st : M → List Blk) : List V → Res
  | [.s (.i .i64 a)] => .ok (.s (.b true)) [] (st ((m.getX a).getX a))
  | _ => .bad
noncomputable def askG := bothF askM
theorem M.getX_emptyV (m : M) (a b : Int) : (m.getX a).emptyV b = m.emptyV b := by
  simp only [M.getX]; split <;> rfl
theorem ask_snd : Snd Try.prog 47 (FSpec.of askG) := snd_run T8_snd mixed Try.func47 dc47 400 fun args H K hc hS => by
  obtain ⟨h, m, rest, rfl, rfl, hS1⟩ := bothF_spec hS
  clear hS
  unfold askM at hS1
  split at hS1
  · rename_i a
    simp only [spec_ok] at hS1
    have s1 := getX_steps m a
    have s2 := getX_steps (m.getX a) a
    simp (config := { maxSteps := 10000000 }) only [EV1, EV2, EV3, EV4, EV5, EV6, addT, istep, pickR, putD, bin1R, un1R, slcR, bnd, capsOf, fillP, V.plain, V.cells, V.known, C.v, blk, setL, setH, eqS, eq1, cmpS, cmp1, isNil, popTo, killT, setT, leT, V.below, S.below, R.below, V.val, C.val, S.val, R.val, R.takes, vals, shows, unnamed, V.kill, V.names, C.names, S.names, R.names, List.set, List.replicate, ↓q_cond_t, ↓q_cond_f, if_true, if_false, reduceCtorEq, rvals, rvC, result, C.known, V.noL, C.noL, S.noL, R.noL, Option.map, true_and, and_true, ge_iff_le, gt_iff_lt, implies_true, q_ite_t, q_ite_f, beq_iff_eq, bne_iff_ne, q_ne, Nat.reduceAdd, Nat.reducePow, Int.reducePow, Nat.reduceMul, Nat.reduceSub, Nat.reduceLeDiff, Nat.reduceLT, Nat.reduceEqDiff, Int.reduceNeg, Int.reduceLT, Int.reduceLE, Int.reduceEq, Int.reduceNe, Int.reduceAdd, Int.reduceSub, Int.reduceMul, Int.reduceToNat, Int.reduceBEq, Int.reduceBNe, df47, T8, bothH, bothB, nh0, memF_new1A, memF_new2A, stepsG, stepsM, get2G, get2M, empty2G, empty2M, slot_eqB, M.getX_getE, M.getX_emptyV, s1, s2, Slot.cl, put, fillP, sub, List.take_succ_cons, List.take_zero, List.drop_zero, List.drop_succ_cons]
    exact hS1
  · exact hS1.elim
end Go.Proofs.Ythegocjfnjfkdaa

/- The arguments of a statement: what is read of them becomes values over read-only blocks; behind the call they read as before. -/
namespace Go.D
set_option linter.all false

inductive TY where
  | int (k : IntKind)
  | bool
  | slice (e : List TY)

mutual
/-- A cell of a type, over a heap of blocks. -/
def hasT (h : List Blk) : TY → S → Prop
  | .int k, s => ∃ n, s = .i k n ∧ (Lit.int k n).wf = true
  | .bool, s => ∃ b, s = .b b
  | .slice e, s => s = .ns ∨ ∃ (j n c : Nat) (E : List (List S)) (st : BK) (room : Nat), s = .sl (.g j) 0 n c ∧ n ≤ c ∧ c ≤ maxLen ∧ h[j]? = some ⟨st, E.flatten, room⟩ ∧ E.length = n ∧ (n ≠ 0 → st = .ro) ∧ st ≠ .rw ∧ ∀ x, x ∈ E → hasTs h e x
def hasTs (h : List Blk) : List TY → List S → Prop
  | [], [] => True
  | t :: ts, s :: ss => hasT h t s ∧ hasTs h ts ss
  | _, _ => False
end

/-- A heap of blocks that are only read. -/
structure RO (σ : Sg) (h : List Blk) (w : World) : Prop where
  ok : ∀ k B, h[k]? = some B → B.st ≠ .rw ∧ OkBlk σ w (.g k) B
  val : ∀ B, B ∈ h → vals h.length 0 B.cells = true

theorem RO.sim {σ : Sg} {h : List Blk} {w : World} (H : RO σ h w) : Sim σ h [] w := by
  refine ⟨fun r B hb => ?_, fun r r' B B' hb hb' hne hst hd => ?_, H.val, fun B hB => by cases hB⟩
  · cases r with
    | g k => exact (H.ok k B hb).2
    | l k => simp [blk] at hb
  · cases r with
    | g k => exact absurd hst (H.ok k B hb).1
    | l k => simp [blk] at hb

mutual
theorem hasT_mono {h h' : List Blk} : ∀ {t : TY} {s : S}, hasT h t s → hasT (h ++ h') t s
  | .int k, s, hs => hs
  | .bool, s, hs => hs
  | .slice e, s, hs => by
    rcases hs with hs | ⟨j, n, c, E, st, room, h1, h2, h3, h4, h5, h6, h7, h8⟩
    · exact .inl hs
    · exact .inr ⟨j, n, c, E, st, room, h1, h2, h3, by rw [List.getElem?_append_left (List.getElem?_eq_some_iff.1 h4).1]; exact h4, h5, h6, h7, fun x hx => hasTs_mono (h8 x hx)⟩
theorem hasTs_mono {h h' : List Blk} : ∀ {ts : List TY} {ss : List S}, hasTs h ts ss → hasTs (h ++ h') ts ss
  | [], [], _ => trivial
  | t :: ts, s :: ss, hs => ⟨hasT_mono hs.1, hasTs_mono hs.2⟩
  | [], _ :: _, hs => hs.elim
  | _ :: _, [], hs => hs.elim
end

/-! ### types, flattened -/
def tyFields (P : Program) (r : TypeId → Option (List TY)) : List Field → Nat → Option (List TY)
  | [], _ => some []
  | f :: fs, off => match r f.type, tyFields P r fs (off + P.cellsOf f.type) with
    | some l, some q => if f.offset = off ∧ l.length = P.cellsOf f.type then some (l ++ q) else none
    | _, _ => none

/-- The cells of a type. 'al': may there be slices? 'nest': may there be, in slices' elements? -/
def tyOf (P : Program) (nest : Bool) : Nat → Bool → TypeId → Option (List TY)
  | 0, _, _ => none
  | d + 1, al, t => match P.underlying t with
    | some (.int k) => some [.int k]
    | some .bool => some [.bool]
    | some (.slice e) => match tyOf P nest d nest e with
      | some l => if l.length = P.cellsOf e ∧ al = true ∧ 0 < l.length then some [.slice l] else none
      | none => none
    | some (.struct fs) => match tyFields P (tyOf P nest d al) fs.toList 0 with
      | some l => if l.length = P.cellsOf t then some l else none
      | none => none
    | some (.array n e) => match tyOf P nest d al e with
      | some l => if l.length = P.cellsOf e ∧ P.cellsOf t = n * P.cellsOf e then some (List.replicate n l).flatten else none
      | none => none
    | _ => none

/-- A slice's address is a plain one. -/
def plainV : Value → Prop
  | .slice (some a) _ _ => a.spot = none
  | _ => True

section
variable {H : Type} {enc : TypeId × Value → H} {P : Program} {w : World}

/-- Cells of such types become values over read-only blocks. -/
def Opens (w : World) (cs : List Value) (tys : List TY) : Prop :=
  ∀ (σ : Sg) (h : List Blk), RO σ h w → ∃ (h' : List Blk) (σ' : Sg) (ss : List S), (∀ k, k < h.length → σ' (.g k) = σ (.g k)) ∧ RO σ' (h ++ h') w ∧ hasTs (h ++ h') tys ss ∧ ss.map (S.tr σ') = cs ∧ vals (h ++ h').length 0 ss = true ∧ known ss = true

theorem hasTs_append {h : List Blk} : ∀ {t1 t2 : List TY} {s1 s2 : List S}, hasTs h t1 s1 → hasTs h t2 s2 → hasTs h (t1 ++ t2) (s1 ++ s2)
  | [], _, [], _, _, h2 => h2
  | _ :: _, _, _ :: _, _, h1, h2 => ⟨h1.1, hasTs_append h1.2 h2⟩
  | [], _, _ :: _, _, h1, _ => h1.elim
  | _ :: _, _, [], _, h1, _ => h1.elim

theorem hasTs_length {h : List Blk} : ∀ {ts : List TY} {ss : List S}, hasTs h ts ss → ss.length = ts.length
  | [], [], _ => rfl
  | _ :: _, _ :: _, h1 => by simp [hasTs_length h1.2]
  | [], _ :: _, h1 => h1.elim
  | _ :: _, [], h1 => h1.elim

/-- What is valid among the first blocks is translated alike. -/
theorem trs_old {σ σ' : Sg} {n : Nat} (hA : ∀ k, k < n → σ' (.g k) = σ (.g k)) {ss : List S} (hv : vals n 0 ss = true) : ss.map (S.tr σ') = ss.map (S.tr σ) := by
  simp only [vals, List.all_eq_true] at hv
  refine List.map_congr_left fun s hs => S.tr_congr (n := n) (m := 0) (fun r hr => ?_) s (hv s hs)
  cases r with
  | g k => exact hA k (by simpa [R.val] using hr)
  | l k => simp [R.val] at hr

theorem Opens.nil : Opens w [] [] := fun σ h H => ⟨[], σ, [], fun _ _ => rfl, by simpa using H, trivial, rfl, rfl, rfl⟩

theorem Opens.append {c1 c2 : List Value} {t1 t2 : List TY} (h1 : Opens w c1 t1) (h2 : Opens w c2 t2) : Opens w (c1 ++ c2) (t1 ++ t2) := fun σ h H => by
  obtain ⟨ha, σa, sa, a1, a2, a3, a4, a5, a6⟩ := h1 σ h H
  obtain ⟨hb, σb, sb, b1, b2, b3, b4, b5, b6⟩ := h2 σa (h ++ ha) a2
  refine ⟨ha ++ hb, σb, sa ++ sb, fun k hk => ?_, by rw [← List.append_assoc]; exact b2, ?_, ?_, ?_, ?_⟩
  · rw [b1 k (by simp; omega), a1 k hk]
  · rw [← List.append_assoc]; exact hasTs_append (hasTs_mono a3) b3
  · rw [List.map_append, b4, trs_old b1 a5, a4]
  · rw [← List.append_assoc]
    simp only [vals, List.all_append, Bool.and_eq_true]
    exact ⟨vals_mono (by simp) (Nat.le_refl _) a5, b5⟩
  · simp only [known, List.all_append, Bool.and_eq_true]
    exact ⟨a6, b6⟩

theorem Opens.one {v : Value} {t : TY} (h : ∀ σ : Sg, ∀ h : List Blk, ∃ s : S, hasT h t s ∧ s.tr σ = v ∧ s.val 0 0 = true ∧ V.known (.s s) = true) : Opens w [v] [t] := fun σ h0 H => by
  obtain ⟨s, e1, e2, e3, e4⟩ := h σ h0
  refine ⟨[], σ, [s], fun _ _ => rfl, by simpa using H, ⟨by simpa using e1, trivial⟩, by simp [e2], ?_, ?_⟩
  · simp only [vals, List.all_cons, List.all_nil, Bool.and_true]
    exact S.val_mono (Nat.zero_le _) (Nat.zero_le _) e3
  · rw [known_cons, e4]; rfl

/-- Many elements, one after the other. -/
theorem Opens.list {l : List TY} (C : Nat → List Value) : ∀ m : Nat, (∀ i, i < m → Opens w (C i) l) → ∀ (σ : Sg) (h : List Blk), RO σ h w → ∃ (h' : List Blk) (σ' : Sg) (E : List (List S)), (∀ k, k < h.length → σ' (.g k) = σ (.g k)) ∧ RO σ' (h ++ h') w ∧ E.length = m ∧
      (∀ x, x ∈ E → hasTs (h ++ h') l x) ∧ E.flatten.map (S.tr σ') = ((List.range m).map C).flatten ∧ vals (h ++ h').length 0 E.flatten = true ∧ known E.flatten = true
  | 0, _, σ, h, H => ⟨[], σ, [], fun _ _ => rfl, by simpa using H, rfl, fun x hx => absurd hx List.not_mem_nil, rfl, rfl, rfl⟩
  | m + 1, hC, σ, h, H => by
    obtain ⟨ha, σa, E, a1, a2, a3, a4, a5, a6, a7⟩ := Opens.list C m (fun i hi => hC i (by omega)) σ h H
    obtain ⟨hb, σb, sb, b1, b2, b3, b4, b5, b6⟩ := hC m (by omega) σa (h ++ ha) a2
    refine ⟨ha ++ hb, σb, E ++ [sb], fun k hk => ?_, by rw [← List.append_assoc]; exact b2, by simp [a3], fun x hx => ?_, ?_, ?_, ?_⟩
    · rw [b1 k (by simp; omega), a1 k hk]
    · rw [← List.append_assoc]
      rcases List.mem_append.1 hx with h1 | h1
      · exact hasTs_mono (a4 x h1)
      · simp only [List.mem_singleton] at h1; subst h1; exact b3
    · rw [List.flatten_append, List.map_append, trs_old b1 a6, a5, List.range_succ, List.map_append, List.flatten_append]
      simp [b4]
    · rw [← List.append_assoc, List.flatten_append, show [sb].flatten = sb by simp]
      simp only [vals, List.all_append, Bool.and_eq_true]
      exact ⟨vals_mono (by simp) (Nat.le_refl _) a6, b5⟩
    · rw [List.flatten_append, show [sb].flatten = sb by simp]
      simp only [known, List.all_append, Bool.and_eq_true]
      exact ⟨a7, b6⟩

/-- A slice of such elements. -/
theorem Opens.slice {l : List TY} {a : Addr} {len cap k : Nat} (ha : a.spot = none) (hk : l.length = k) (hlc : len ≤ cap) (hcm : cap ≤ maxLen) (C : Nat → List Value) (hC : ∀ i, i < len → Opens w (C i) l)
    (hcell : ∀ i j, i < len → j < k → ∃ v, (C i)[j]? = some v ∧ w.cell? (a.add (i * k + j)) = some v) (hlen : ∀ i, i < len → (C i).length = k) (hsz : len ≠ 0 → a.block < w.heap.size) : Opens w [.slice (some a) len cap] [.slice l] := fun σ h H => by
  obtain ⟨ha', σa, E, a1, a2, a3, a4, a5, a6, a7⟩ := Opens.list C len hC σ h H
  let n := (h ++ ha').length
  let σ' : Sg := fun r => if r = .g n then (a.block, a.off) else σa r
  have hσ : ∀ k, k < n → σ' (.g k) = σa (.g k) := fun k hk => by
    show (if R.g k = .g n then _ else _) = _
    rw [if_neg (by intro e; cases e; omega)]
  have hσn : σ' (.g n) = (a.block, a.off) := by
    show (if R.g n = .g n then _ else _) = _
    rw [if_pos rfl]
  have hEl : ∀ x, x ∈ E → x.length = k := fun x hx => by rw [hasTs_length (a4 x hx), hk]
  have hEt : E.flatten.map (S.tr σ') = ((List.range len).map C).flatten := by rw [trs_old hσ a6, a5]
  have hflat : ∀ (m : Nat) (q : Nat) (v : Value), m ≤ len → (((List.range m).map C).flatten)[q]? = some v → w.cell? (a.add q) = some v ∧ q < m * k := by
    intro m
    induction m with
    | zero => intro q v _ h; simp at h
    | succ m ih =>
      intro q v hm hq
      have hl : (((List.range m).map C).flatten).length = m * k := by
        have : ∀ m', m' ≤ len → (((List.range m').map C).flatten).length = m' * k := by
          intro m'
          induction m' with
          | zero => intro _; simp
          | succ m' ih' => intro hm'; rw [List.range_succ, List.map_append, List.flatten_append, List.length_append, ih' (by omega)]; simp [hlen m' (by omega), Nat.succ_mul]
        exact this m (by omega)
      rw [List.range_succ, List.map_append, List.flatten_append] at hq
      by_cases hlt : q < m * k
      · rw [List.getElem?_append_left (by omega)] at hq
        obtain ⟨h1, h2⟩ := ih q v (by omega) hq
        exact ⟨h1, by rw [Nat.succ_mul]; omega⟩
      · rw [List.getElem?_append_right (by omega), hl] at hq
        simp only [List.map_cons, List.map_nil, List.flatten_cons, List.flatten_nil, List.append_nil] at hq
        have hj : q - m * k < k := by
          have := (List.getElem?_eq_some_iff.1 hq).1
          rw [hlen m (by omega)] at this; exact this
        obtain ⟨v', h1, h2⟩ := hcell m (q - m * k) (by omega) hj
        rw [hq] at h1
        cases h1
        have e : m * k + (q - m * k) = q := by omega
        rw [e] at h2
        exact ⟨h2, by rw [Nat.succ_mul]; omega⟩
  let B : Blk := ⟨if len = 0 then .dead else .ro, E.flatten, 0⟩
  have hBst : B.st ≠ .rw := by
    show (if len = 0 then BK.dead else .ro) ≠ .rw
    split <;> simp
  have hn1 : (h ++ (ha' ++ [B])).length = n + 1 := by simp only [n, List.length_append, List.length_cons, List.length_nil]; omega
  refine ⟨ha' ++ [B], σ', [.sl (.g n) 0 len cap], fun k hk => ?_, ⟨fun k B' hB => ?_, fun B' hB => ?_⟩, ⟨.inr ⟨n, len, cap, E, _, 0, rfl, hlc, hcm, ?_, a3, fun h0 => if_neg h0, hBst, fun x hx => ?_⟩, trivial⟩, ?_, ?_, rfl⟩
  · rw [hσ k (by show k < (h ++ ha').length; simp; omega), a1 k hk]
  · rw [← List.append_assoc] at hB
    by_cases hk : k < n
    · rw [List.getElem?_append_left hk] at hB
      obtain ⟨c1, c2⟩ := a2.ok k B' hB
      refine ⟨c1, c2.move (n := n) (m := 0) (hσ k hk) (fun r hr => ?_) (a2.val B' (List.mem_of_getElem? hB)) (Nat.le_refl _) (fun _ => rfl)⟩
      cases r with
      | g i => exact hσ i (by simpa [R.val] using hr)
      | l i => simp [R.val] at hr
    · have hkn : k = n := by
        have := (List.getElem?_eq_some_iff.1 hB).1
        simp only [List.length_append, List.length_cons, List.length_nil] at this
        simp only [n, List.length_append] at hk ⊢
        omega
      subst hkn
      rw [List.getElem?_append_right (Nat.le_refl _), Nat.sub_self] at hB
      simp only [List.getElem?_cons_zero, Option.some.injEq] at hB
      subst hB
      refine ⟨hBst, ?_⟩
      unfold OkBlk
      show match (if len = 0 then BK.dead else .ro) with
        | .dead => True
        | .ro => _
        | .rw => _
      by_cases h0 : len = 0
      · rw [if_pos h0]; trivial
      · rw [if_neg h0]
        refine ⟨by rw [hσn]; exact hsz h0, fun i s hs _ => ?_⟩
        have h1 : (E.flatten.map (S.tr σ'))[i]? = some (s.tr σ') := by
          rw [List.getElem?_map, show E.flatten[i]? = some s from hs]; rfl
        rw [hEt] at h1
        have h2 := (hflat len i _ (Nat.le_refl _) h1).1
        have e : a.add i = adr σ' (.g n) i := by
          simp only [adr, hσn, Addr.add]
          cases a; simp only at ha; subst ha
          by_cases hi : i = 0
          · subst hi; simp
          · simp [hi]
        rw [← e]; exact h2
  · rw [hn1]
    rw [← List.append_assoc] at hB
    rcases List.mem_append.1 hB with hB | hB
    · exact vals_mono (Nat.le_succ n) (Nat.le_refl _) (a2.val B' hB)
    · simp only [List.mem_singleton] at hB
      subst hB
      exact vals_mono (Nat.le_succ n) (Nat.le_refl _) a6
  · rw [← List.append_assoc, List.getElem?_append_right (Nat.le_refl _), Nat.sub_self]; rfl
  · rw [← List.append_assoc]; exact hasTs_mono (a4 x hx)
  · simp only [List.map_cons, List.map_nil, S.tr, adr, hσn, Nat.add_zero]
    cases a; simp only at ha; subst ha; rfl
  · rw [hn1]; simp [vals, S.val, R.val]


theorem Opens.fields {d : TypeId → Option (List TY)} {cs : List Value} : ∀ (fs : List Field) (off : Nat) (tys : List TY), tyFields P d fs off = some tys → off + tys.length = cs.length →
      (∀ f, f ∈ fs → ∀ l, d f.type = some l → l.length = P.cellsOf f.type → f.offset + P.cellsOf f.type ≤ cs.length → Opens w ((cs.drop f.offset).take (P.cellsOf f.type)) l) → Opens w (cs.drop off) tys
  | [], off, tys, ht, hl, _ => by
    simp only [tyFields, Option.some.injEq] at ht
    subst ht
    rw [List.drop_eq_nil_of_le (by simp at hl; omega)]
    exact Opens.nil
  | f :: fs, off, tys, ht, hl, hf => by
    simp only [tyFields] at ht
    split at ht
    · rename_i l q h1 h2
      split at ht
      · rename_i hc
        cases ht
        obtain ⟨h3, h4⟩ := hc
        simp only [List.length_append] at hl
        have ih := Opens.fields fs (off + P.cellsOf f.type) q h2 (by omega) (fun g hg => hf g (List.mem_cons_of_mem _ hg))
        have h0 := hf f List.mem_cons_self l h1 h4 (by rw [h3]; omega)
        rw [h3] at h0
        have e : cs.drop off = (cs.drop off).take (P.cellsOf f.type) ++ cs.drop (off + P.cellsOf f.type) := by
          rw [← List.drop_drop, List.take_append_drop]
        rw [e]
        exact h0.append ih
      · cases ht
    · cases ht

theorem Opens.array {k : Nat} {l : List TY} (hk : l.length = k) : ∀ (n : Nat) (cs : List Value), cs.length = n * k → (∀ i, i < n → Opens w ((cs.drop (i * k)).take k) l) → Opens w cs (List.replicate n l).flatten
  | 0, cs, hl, _ => by
    have : cs = [] := by cases cs <;> simp_all
    subst this
    exact Opens.nil
  | n + 1, cs, hl, h => by
    have h0 := h 0 (by omega)
    simp only [Nat.zero_mul, List.drop_zero] at h0
    have ih := Opens.array hk n (cs.drop k) (by simp [hl, Nat.succ_mul]) (fun i hi => by
      have := h (i + 1) (by omega)
      rw [List.drop_drop]
      have e : k + i * k = (i + 1) * k := by rw [Nat.succ_mul]; omega
      rw [e]; exact this)
    have e : cs = cs.take k ++ cs.drop k := (List.take_append_drop _ _).symm
    rw [e, List.replicate_succ, List.flatten_cons]
    exact h0.append ih


theorem open_trod {nest : Bool} (hw : nest = true → ∀ a v, w.cell? a = some v → plainV v) {base : Nat} {spare : Nat → Bool} {held : Bool} : ∀ (d : Nat) (al : Bool) (n : Nat) (t : TypeId) (cs : List Value) (x : DataW H × List MemPlace) (tys : List TY),
    DataW.trod enc P w base spare held n t cs = some x → tyOf P nest d al t = some tys → (al = true → ∀ v, v ∈ cs → plainV v) → Opens w cs tys
  | 0, _, _, _, _, _, _, _, ht, _ => by simp [tyOf] at ht
  | d + 1, al, n, t, cs, x, tys, hx, ht, hp => by
    simp only [tyOf] at ht
    split at ht
    · rename_i k hu
      cases ht
      obtain ⟨m, rfl, _, hwf⟩ := DataW.trod_int hu hx
      exact Opens.one fun σ h => ⟨.i k m, ⟨m, rfl, hwf⟩, rfl, rfl, rfl⟩
    · rename_i hu
      cases ht
      obtain ⟨b, rfl, _⟩ := DataW.trod_bool hu hx
      exact Opens.one fun σ h => ⟨.b b, ⟨b, rfl⟩, rfl, rfl, rfl⟩
    · rename_i e hu
      split at ht
      · rename_i l hl
        split at ht
        · rename_i hc
          cases ht
          rcases DataW.trod_slice hu hx with ⟨rfl, _⟩ | ⟨a, len, cap, elems, rest, m, _, rfl, _, hb, hlc, hcm, hel, hE, _, _⟩
          · exact Opens.one fun σ h => ⟨.ns, .inl rfl, rfl, rfl, rfl⟩
          · have hget : ∀ i, i < len → ∃ cs', w.cells? base (a.add (i * P.cellsOf e)) (P.cellsOf e) = some cs' ∧ ∃ y, DataW.trod enc P w base spare held m e cs' = some y := fun i hi => by
              have := hE i hi
              rw [List.getElem?_eq_getElem (by omega)] at this
              obtain ⟨cs', h1, h2⟩ := Option.bind_eq_some_iff.1 this
              exact ⟨cs', h1, _, h2⟩
            let C : Nat → List Value := fun i => (w.cells? base (a.add (i * P.cellsOf e)) (P.cellsOf e)).getD []
            have hC : ∀ i, i < len → w.cells? base (a.add (i * P.cellsOf e)) (P.cellsOf e) = some (C i) := fun i hi => by
              obtain ⟨cs', h1, _⟩ := hget i hi
              simp only [C, h1, Option.getD_some]
            have hadd : ∀ i j, (a.add i).add j = a.add (i + j) := fun i j => by
              simp only [Addr.add]
              by_cases hi : i = 0
              · subst hi; simp
              · by_cases hj : j = 0
                · subst hj; simp [hi]
                · simp [hi, hj, Nat.add_assoc]
            refine Opens.slice (k := P.cellsOf e) (hp hc.2.1 _ (List.mem_singleton.2 rfl)) hc.1 hlc hcm C (fun i hi => ?_) (fun i j hi hj => ?_) (fun i hi => (World.cells?_some (hC i hi)).2.1) (fun h0 => ?_)
            · obtain ⟨cs', h1, y, h2⟩ := hget i hi
              rw [hC i hi] at h1
              cases h1
              refine open_trod hw d nest m e (C i) y l h2 hl (fun hn v hv => ?_)
              obtain ⟨j, hj, rfl⟩ := List.mem_iff_getElem.1 hv
              obtain ⟨_, h3, h4⟩ := World.cells?_some (hC i hi)
              refine hw hn ((a.add (i * P.cellsOf e)).add j) _ ?_
              rw [h4 j (by omega), List.getElem?_eq_getElem hj]
            · obtain ⟨_, h3, h4⟩ := World.cells?_some (hC i hi)
              have h5 := h4 j hj
              rw [List.getElem?_eq_getElem (by omega), hadd] at h5
              exact ⟨_, List.getElem?_eq_getElem (by omega), h5⟩
            · have h3 := hC 0 (by omega)
              obtain ⟨_, h4, h5⟩ := World.cells?_some h3
              have h6 := h5 0 (by have := hc.1; omega)
              rw [List.getElem?_eq_getElem (by have := hc.1; omega), hadd] at h6
              simp only [Nat.zero_mul, Nat.add_zero, Addr.add, if_true] at h6
              unfold World.cell? at h6
              cases hb : w.heap[a.block]? with
              | none => rw [hb] at h6; cases h6
              | some o => exact (Array.getElem?_eq_some_iff.1 hb).1
        · cases ht
      · cases ht
    · rename_i fs hu
      split at ht
      · rename_i l hl
        split at ht
        · rename_i hlen
          have ht' : l = tys := by simpa using ht
          rw [← ht']
          obtain ⟨xs, m, _, _, hcs, hxs, hf⟩ := DataW.trod_struct hu hx
          have := Opens.fields (w := w) (cs := cs) fs.toList 0 l hl (by omega) (fun f hf' q hq hql hle => by
            obtain ⟨i, hi, rfl⟩ := List.mem_iff_getElem.1 hf'
            have hi' : i < fs.size := by simpa using hi
            have h1 := hf i fs[i] (Array.getElem?_eq_getElem hi')
            rw [List.getElem?_eq_getElem (by omega)] at h1
            exact open_trod hw d al m _ _ _ q h1 hq (fun ha v hv => hp ha v (List.mem_of_mem_drop (List.mem_of_mem_take hv))))
          simpa using this
        · cases ht
      · cases ht
    · rename_i m e hu
      split at ht
      · rename_i l hl
        split at ht
        · rename_i hc
          cases ht
          obtain ⟨xs, f, _, _, hcs, hxs, hf⟩ := DataW.trod_array hu hx
          refine Opens.array (k := P.cellsOf e) hc.1 m cs (by rw [hcs, hc.2]) (fun i hi => ?_)
          have h1 := hf i hi
          rw [List.getElem?_eq_getElem (by omega)] at h1
          exact open_trod hw d al f _ _ _ l h1 hl (fun ha v hv => hp ha v (List.mem_of_mem_drop (List.mem_of_mem_take hv)))
        · cases ht
      · cases ht
    · cases ht

end

end Go.D

/- A statement's step: its arguments opened, its answer closed. -/
namespace Go.D
set_option linter.all false
open Go.ChangeShapes Go.WideShapes
section
variable {H : Type} {enc : TypeId × Value → H} {P : Program} {W W' : World}

/-- Behind the call each old block is as it was. -/
structure Still (W W' : World) : Prop where
  os : W'.os = W.os
  output : W'.output = W.output
  heap : ∀ b, b < W.heap.size → W'.heap[b]? = W.heap[b]?

theorem Still.keptBut (h : Still W W') (may : MemPlace → Prop) : W.keptBut W' may := by
  refine ⟨h.os, h.output, fun i hi => ?_⟩
  rw [h.heap i hi]
  split
  · rename_i e1 e2
    cases e1.symm.trans e2
    exact ⟨rfl, rfl, rfl, fun _ _ => rfl⟩
  · rename_i e1 e2
    cases e1.symm.trans e2
    exact .inr ⟨rfl, rfl⟩
  · rfl

theorem Still.cell (h : Still W W') {a : Addr} (ha : a.block < W.heap.size) : W'.cell? a = W.cell? a := by
  simp only [World.cell?, h.heap a.block ha]

theorem Still.frozen (h : Still W W') {a : Addr} (ha : a.block < W.heap.size) : W'.frozen? a = W.frozen? a := by
  simp only [World.frozen?, h.heap a.block ha]

theorem Still.same (h : Still W W') {p : MemPlace} (hp : p.block < W.heap.size) : W.sameAt W' p := by
  cases p with
  | cell b off => exact h.cell hp
  | map b => exact h.heap b hp

/-- The statement's answer: true; the arguments read as before. -/
theorem law_post {T : TypeId → Prop} {f : Func} {s : ChangeSpec} {args : Array Value} {ds gs : List (DataW H)} {before : List MemPlace} {bt : TypeId} (K : Kids P T) (hz : ∀ t e, T t → P.underlying t = some (.slice e) → 0 < P.cellsOf e)
    (hT : ∀ t, t ∈ f.params.toList → T t) (hv : s.vars = []) (hbt : P.underlying bt = some .bool) (hrt : f.resultTypes = #[bt]) (hfn : s.fn H (ds ++ gs) = { results := [.lit (.bool true)], args := ds }) {apart : Bool}
    (hW : DataW.Whole enc P f.params.toList s.vars apart W args.toList ds gs before) (hS : Still W W') {fresh handsOn : Bool} :
    s.post enc P f apart fresh handsOn false W args (.bool true) W' := by
  obtain ⟨p, q, hA, hV, hb, hfz, hnd⟩ := id hW
  have hlt : ∀ x, x ∈ before → x.block < W.heap.size := fun x hx => hW.lt x hx
  rw [hv] at hV
  obtain ⟨rfl, rfl⟩ := trodVars_none hV
  simp only [List.append_nil] at hb hfn
  subst hb
  have hcarry : ∀ {ts : List TypeId} {vs : List Value} {ds : List (DataW H)} {p : List MemPlace} {sp : Nat → Bool}, DataW.TrodAll enc P W 0 sp true ts vs ds p → (∀ x, x ∈ p → x.block < W.heap.size) → DataW.TrodAll enc P W' 0 sp true ts vs ds p := by
    intro ts
    induction ts with
    | nil =>
      intro vs ds p sp h _
      cases vs <;> cases ds <;> first | exact h | exact h.elim
    | cons t ts ih =>
      intro vs ds p sp h hp
      match vs, ds, h with
      | v :: vs, d :: ds, ⟨p1, p2, ⟨n, h1⟩, h2, e⟩ =>
        exact ⟨p1, p2, ⟨n, DataW.trod_carry n _ _ _ h1 (fun x hx => hS.same (hp x (by rw [e]; exact List.mem_append_left _ hx)))⟩, ih h2 (fun x hx => hp x (by rw [e]; exact List.mem_append_right _ hx)), e⟩
  have hres : ∀ (b : Nat) (sp : Nat → Bool) (hd : Bool), DataW.TrodAll enc P W' b sp hd f.resultTypes.toList ((Value.bool true).resultList f.resultTypes.size) (s.fn H (ds ++ [])).results [] := fun b sp hd => by
    simp only [List.append_nil, hfn, hrt]
    exact ⟨[], [], ⟨1, by simp [DataW.trod, Value.cells, hbt]⟩, rfl, rfl⟩
  have hsp : ∀ sp : Nat → Bool, (∀ x, x ∈ before → sp x.block = true) → DataW.TrodAll enc P W' 0 sp true f.params.toList args.toList (s.fn H (ds ++ [])).args before := fun sp hx => by
    simp only [List.append_nil, hfn]
    exact hcarry (DataW.TrodAll.respare K hz hT hA hx) hlt
  have hvars : ∀ sp : Nat → Bool, DataW.TrodVars enc P W' sp s.vars (s.fn H (ds ++ [])).vars [] := fun sp => by
    simp only [List.append_nil, hfn, hv]; rfl
  refine ⟨ds, [], before, [], before, [], hW, hres _ _ _, hsp _ (fun x hx => decide_eq_true (hlt x hx)), hvars _, hS.keptBut _, fun h => Bool.noConfusion h⟩
end
end Go.D

/- A statement's row: a law whose small code answers true over whatever read-only arguments holds. -/
namespace Go.D
set_option linter.all false
open Go.ChangeShapes Go.WideShapes

/-- A parameter: is it an aggregate; its cells. -/
def paramTy (P : Program) (nest : Bool) (d : Nat) (t : TypeId) : Option (Bool × List TY) :=
  match tyOf P nest d true t with
  | some l => match P.underlying t with
    | some (.struct _) => some (true, l)
    | some (.array _ _) => some (true, l)
    | some (.int _) => some (false, l)
    | some .bool => some (false, l)
    | some (.slice _) => some (false, l)
    | _ => none
  | none => none
def paramTys (P : Program) (nest : Bool) (d : Nat) : List TypeId → Option (List (Bool × List TY))
  | [] => some []
  | t :: ts => match paramTy P nest d t, paramTys P nest d ts with
    | some x, some l => some (x :: l)
    | _, _ => none

/-- A parameter's value. -/
def hasV (h : List Blk) : Bool × List TY → V → Prop
  | (true, l), v => ∃ ss, v = .agg ss ∧ hasTs h l ss
  | (false, l), v => ∃ s, v = .s s ∧ hasTs h l [s]
def hasVs (h : List Blk) : List (Bool × List TY) → List V → Prop
  | [], [] => True
  | t :: ts, v :: vs => hasV h t v ∧ hasVs h ts vs
  | _, _ => False

theorem hasV_mono {h h' : List Blk} {t : Bool × List TY} {v : V} (H : hasV h t v) : hasV (h ++ h') t v := by
  obtain ⟨b, l⟩ := t
  cases b with
  | true => obtain ⟨ss, e, H⟩ := H; exact ⟨ss, e, hasTs_mono H⟩
  | false => obtain ⟨s, e, H⟩ := H; exact ⟨s, e, hasTs_mono H⟩

section
variable {H : Type} {enc : TypeId × Value → H} {P : Program} {w : World}

theorem V.tr_old {σ σ' : Sg} {n : Nat} (hA : ∀ k, k < n → σ' (.g k) = σ (.g k)) {v : V} (hv : v.val n 0 = true) : v.tr σ' = v.tr σ :=
  V.tr_congr (n := n) (m := 0) (fun r hr => by
    cases r with
    | g k => exact hA k (by simpa [R.val] using hr)
    | l k => simp [R.val] at hr) v hv

theorem open_arg {nest : Bool} (hw : nest = true → ∀ a v, w.cell? a = some v → plainV v) {r : Reach} {base : Nat} {t : TypeId} {v : Value} {d : DataW H} {p : List MemPlace} {D : Nat} {x : Bool × List TY} {sp : Nat → Bool} {held : Bool} {b0 : Nat}
    (hok : Value.okWide P w r base t v) (ht : DataW.Trod enc P w b0 sp held t v d p) (hx : paramTy P nest D t = some x) :
    ∀ (σ : Sg) (h : List Blk), RO σ h w → ∃ (h' : List Blk) (σ' : Sg) (u : V), (∀ k, k < h.length → σ' (.g k) = σ (.g k)) ∧ RO σ' (h ++ h') w ∧ hasV (h ++ h') x u ∧ u.tr σ' = v ∧ u.val (h ++ h').length 0 = true ∧ u.known = true := by
  obtain ⟨n, ht⟩ := ht
  unfold paramTy at hx
  split at hx
  · rename_i l hl
    have hcell : ∀ (t : TypeId) (v : Value), Cell.okWide P w r base t v → plainV v := fun t v hc => by
      unfold plainV
      split
      · rename_i a len cap
        unfold Cell.okWide at hc
        split at hc
        any_goals (rename_i e1 e2; first | cases e2 | skip)
        unfold Cell.ok at hc
        split at hc
        any_goals (rename_i e1 e2; first | cases e2 | skip)
        all_goals first | exact hc.2.2.2.1 | exact hc.elim | skip
      · trivial
    have agg : ∀ cs, v = .agg cs → Row.okWide P w r base t cs → x = (true, l) → ∀ (σ : Sg) (h : List Blk), RO σ h w → ∃ (h' : List Blk) (σ' : Sg) (u : V), (∀ k, k < h.length → σ' (.g k) = σ (.g k)) ∧ RO σ' (h ++ h') w ∧ hasV (h ++ h') x u ∧ u.tr σ' = v ∧ u.val (h ++ h').length 0 = true ∧ u.known = true := by
      intro cs hv hr hx σ h hR
      subst hv; subst hx
      obtain ⟨h', σ', ss, a1, a2, a3, a4, a5, a6⟩ := open_trod hw D true n t cs.toList (d, p) l ht hl (fun _ v hv => by
        obtain ⟨ts, _, _, hcs⟩ := hr
        obtain ⟨i, hi, rfl⟩ := List.mem_iff_getElem.1 hv
        obtain ⟨u, _, h2⟩ := hcs i cs.toList[i] (by simp at hi; simp [hi])
        exact hcell u _ h2) σ h hR
      refine ⟨h', σ', .agg ss, a1, a2, ⟨ss, rfl, a3⟩, ?_, a5, a6⟩
      simp only [V.tr, trs, a4, Array.toArray_toList]
    have one : v.cells = #[v] → plainV v → x = (false, l) → ∀ (σ : Sg) (h : List Blk), RO σ h w → ∃ (h' : List Blk) (σ' : Sg) (u : V), (∀ k, k < h.length → σ' (.g k) = σ (.g k)) ∧ RO σ' (h ++ h') w ∧ hasV (h ++ h') x u ∧ u.tr σ' = v ∧ u.val (h ++ h').length 0 = true ∧ u.known = true := by
      intro hc hp hx σ h hR
      subst hx
      rw [hc] at ht
      obtain ⟨h', σ', ss, a1, a2, a3, a4, a5, a6⟩ := open_trod hw D true n t [v] (d, p) l ht hl (fun _ u hu => by
        simp only [List.mem_singleton] at hu; subst hu; exact hp) σ h hR
      match ss, a4 with
      | [s], a4 =>
        simp only [List.map_cons, List.map_nil, List.cons.injEq, and_true] at a4
        refine ⟨h', σ', .s s, a1, a2, ⟨s, rfl, a3⟩, a4, ?_, ?_⟩
        · simpa [vals, V.val] using a5
        · simpa [known_cons, known_nil] using a6
    unfold Value.okWide at hok
    split at hx <;> rename_i hu <;> simp only [hu, Option.some.injEq] at hok hx
    · obtain ⟨cs, hv, _, hr⟩ := hok; exact agg cs hv hr hx.symm
    · obtain ⟨cs, hv, _, hr⟩ := hok; exact agg cs hv hr hx.symm
    · refine one ?_ (hcell _ _ hok) hx.symm
      unfold Cell.okWide at hok; rw [hu] at hok
      cases v <;> first | rfl | (simp [Cell.ok, hu] at hok)
    · refine one ?_ (hcell _ _ hok) hx.symm
      unfold Cell.okWide at hok; rw [hu] at hok
      cases v <;> first | rfl | (simp [Cell.ok, hu] at hok)
    · refine one ?_ (hcell _ _ hok) hx.symm
      unfold Cell.okWide at hok; rw [hu] at hok
      cases v <;> first | rfl | (simp [Cell.ok, hu] at hok)
    · cases hx
  · cases hx

theorem open_args {nest : Bool} (hw : nest = true → ∀ a v, w.cell? a = some v → plainV v) {r : Reach} {base D : Nat} {sp : Nat → Bool} {held : Bool} {b0 : Nat} : ∀ (ts : List TypeId) (vs : List Value) (ds : List (DataW H)) (p : List MemPlace) (xs : List (Bool × List TY)),
    (∀ (j : Nat) t v, ts[j]? = some t → vs[j]? = some v → Value.okWide P w r base t v) → DataW.TrodAll enc P w b0 sp held ts vs ds p → paramTys P nest D ts = some xs →
    ∀ (σ : Sg) (h : List Blk), RO σ h w → ∃ (h' : List Blk) (σ' : Sg) (us : List V), (∀ k, k < h.length → σ' (.g k) = σ (.g k)) ∧ RO σ' (h ++ h') w ∧ hasVs (h ++ h') xs us ∧ us.map (V.tr σ') = vs ∧ us.all (V.val (h ++ h').length 0) = true ∧ us.all V.known = true
  | [], vs, ds, p, xs, _, ht, hx => fun σ h hR => by
    obtain ⟨rfl, rfl, rfl⟩ := trodAll_nil ht
    simp only [paramTys, Option.some.injEq] at hx
    subst hx
    exact ⟨[], σ, [], fun _ _ => rfl, by simpa using hR, trivial, rfl, rfl, rfl⟩
  | t :: ts, vs, ds, p, xs, hok, ht, hx => fun σ h hR => by
    obtain ⟨v, vs', d, ds', p', q, rfl, rfl, rfl, h0, h1⟩ := trodAll_cons ht
    simp only [paramTys] at hx
    split at hx
    · rename_i x l hx1 hx2
      cases hx
      obtain ⟨ha, σa, u, a1, a2, a3, a4, a5, a6⟩ := open_arg hw (hok 0 t v rfl rfl) h0 hx1 σ h hR
      obtain ⟨hb, σb, us, b1, b2, b3, b4, b5, b6⟩ := open_args hw ts vs' ds' q l (fun j t v ht hv => hok (j + 1) t v (by simpa using ht) (by simpa using hv)) h1 hx2 σa (h ++ ha) a2
      refine ⟨ha ++ hb, σb, u :: us, fun k hk => ?_, by rw [← List.append_assoc]; exact b2, ?_, ?_, ?_, ?_⟩
      · rw [b1 k (by simp; omega), a1 k hk]
      · rw [← List.append_assoc]; exact ⟨hasV_mono a3, b3⟩
      · rw [List.map_cons, b4, V.tr_old b1 a5, a4]
      · rw [← List.append_assoc, List.all_cons, Bool.and_eq_true]
        exact ⟨V.val_mono (by simp) (Nat.le_refl _) a5, b5⟩
      · rw [List.all_cons, Bool.and_eq_true]; exact ⟨a6, b6⟩
    · cases hx
end

/-- A law's spec: over whatever arguments it answers true. -/
def Law (S : FSpec) (xs : List (Bool × List TY)) : Prop := ∀ (h : List Blk) (us : List V), hasVs h xs us → clean h.length h = true → S us h fun v _ => v = .s (.b true)

theorem law_calls {P : Program} {H : Type} {enc : TypeId × Value → H} {W : World} {f : FuncId} {S : FSpec} {nest : Bool} {r : Reach} {base D : Nat} {ts : List TypeId} {args : Array Value} {ds : List (DataW H)} {p : List MemPlace} {xs : List (Bool × List TY)} {sp : Nat → Bool} {held : Bool} {b0 : Nat}
    (hS : Snd P f S) (hL : Law S xs) (hw : nest = true → ∀ a v, W.cell? a = some v → plainV v) (hok : ∀ (j : Nat) t v, ts[j]? = some t → args[j]? = some v → Value.okWide P W r base t v) (ht : DataW.TrodAll enc P W b0 sp held ts args.toList ds p) (hx : paramTys P nest D ts = some xs) :
    Calls P f args W fun e W' => e = .returned (.bool true) ∧ Still W W' := by
  have hR0 : RO (fun _ => (0, 0)) [] W := ⟨fun k B hB => by simp at hB, fun B hB => by cases hB⟩
  obtain ⟨h, σ, us, _, hR, hV, he, hval, hk⟩ := open_args hw ts args.toList ds p xs (fun j t v h1 h2 => hok j t v h1 (by simpa using h2)) ht hx _ [] hR0
  simp only [List.nil_append] at hR hV hval
  have hcl : clean h.length h = true := by
    simp only [clean, List.all_eq_true]
    exact hR.val
  have hc := hS σ h W us _ hR.sim hval hk (hL h us hV hcl)
  have ha : (us.map (V.tr σ)).toArray = args := by rw [he]
  rw [ha] at hc
  refine hc.mono fun e W' ⟨v, h', σ', e1, _, _, hI, e2⟩ => ?_
  subst e2
  refine ⟨e1, hI.kept.same.os, hI.kept.same.output, fun b hb => hI.kept.keep b hb fun k B hB hst => ?_⟩
  exact absurd hst (hR.ok k B hB).1

/-! ### the row -/
def slicesFull (P : Program) : Bool := (List.range P.types.size).all fun t => match P.underlying t with
  | some (.slice e) => decide (0 < P.cellsOf e)
  | _ => true

theorem trodAll_length {H : Type} {enc : TypeId × Value → H} {P : Program} {w : World} {b0 : Nat} {sp : Nat → Bool} {held : Bool} : ∀ {ts : List TypeId} {vs : List Value} {ds : List (DataW H)} {p : List MemPlace}, DataW.TrodAll enc P w b0 sp held ts vs ds p → ds.length = ts.length
  | [], vs, ds, p, h => by obtain ⟨_, rfl, _⟩ := trodAll_nil h; rfl
  | t :: ts, vs, ds, p, h => by
    obtain ⟨v, vs', d, ds', p', q, rfl, rfl, rfl, _, h1⟩ := trodAll_cons h
    simp [trodAll_length h1]

/-- What is asked of the program and the law's function, by reckoning. -/
structure RowOk (P : Program) (f : FuncId) (fn : Func) (s : ChangeSpec) (xs : List (Bool × List TY)) : Prop where
  own : ownKnob P.godebug = none
  noInit : P.inits.idxOf? f = none
  isf : P.funcs[f]? = some fn
  laid : laidOutB P = true
  rowed : mapsRowed P = true
  full : slicesFull P = true
  params : fn.params.toList.all (fun t => decide (t < P.types.size)) = true
  vars : s.vars = []
  ret : ∃ bt, fn.resultTypes = #[bt] ∧ P.underlying bt = some .bool
  spec : ∀ (H : Type) (ds : List (DataW H)), ds.length = fn.params.toList.length → s.fn H ds = { results := [.lit (.bool true)], args := ds }
  tys : ∃ D, paramTys P false D fn.params.toList = some xs

theorem RowOk.calls {P : Program} {f : FuncId} {fn : Func} {s : ChangeSpec} {xs : List (Bool × List TY)} (R : RowOk P f fn s xs) {S : FSpec} (hS : Snd P f S) (hL : Law S xs)
    {H : Type} {enc : TypeId × Value → H} {W : World} {base : Nat} {r : Reach} {args : Array Value} {ds gs : List (DataW H)} {before : List MemPlace} {apart fresh handsOn : Bool}
    (hval : ∀ (j : Nat) t v, fn.params[j]? = some t → args[j]? = some v → Value.okWide P W r base t v) (hW : DataW.Whole enc P fn.params.toList s.vars apart W args.toList ds gs before) :
    Calls P f args W fun e W' => ∃ v, e = .returned v ∧ s.post enc P fn apart fresh handsOn false W args v W' := by
  obtain ⟨D, hx⟩ := R.tys
  obtain ⟨bt, hrt, hbt⟩ := R.ret
  obtain ⟨p, q, hA, hV, hb, hfz, hnd⟩ := id hW
  have hc := law_calls (nest := false) hS hL (fun h => by cases h) (fun j t v h1 h2 => hval j t v (by simpa using h1) h2) hA hx
  refine hc.mono fun e W' ⟨he, hst⟩ => ⟨_, he, ?_⟩
  have hgs : gs = [] := by
    rw [R.vars] at hV; exact (trodVars_none hV).1
  subst hgs
  refine law_post (kids_rows R.laid R.rowed) (fun t e ht hu => ?_) (fun t ht => ?_) R.vars hbt hrt ?_ hW hst
  · have := R.full
    simp only [slicesFull, List.all_eq_true, List.mem_range] at this
    have := this t ht
    rw [hu] at this
    simpa using this
  · have := R.params
    simp only [List.all_eq_true, decide_eq_true_eq] at this
    exact this t ht
  · simp only [List.append_nil]
    exact R.spec H ds (trodAll_length hA)

theorem RowOk.lifted {C : Checked} {f : FuncId} {fn : Func} {s : ChangeSpec} {xs : List (Bool × List TY)} (R : RowOk C.prog f fn s xs) {S : FSpec} (hS : Snd C.prog f S) (hL : Law S xs) {os : Os} (started : os.Started) {H : Type} {enc : TypeId × Value → H} {conds : List PathCond} {apart fresh handsOn : Bool}
    (witness : ∃ (w : World) (tape : Tape) (i : Input), w.os = os ∧ (w.forCall tape i).Shaped C.prog ∧ i.vars = [] ∧ Input.okWide C.prog (w.forCall tape i) .any w.heap.size f i ∧
      s.pre6 enc C.prog fn conds apart (w.forCall tape i).memory i.args ∧ ({} : Assume).holds C.prog (lone (Frame.enter C.prog f i.args .normal) [] (w.forCall tape i))) :
    ReturnsInHanded {} C os f .any (s.pre6 enc C.prog fn conds apart) (s.post enc C.prog fn apart fresh handsOn false) :=
  returnsInHanded_of_change R.own started R.noInit R.isf witness fun _ _ _ _ _ _ hval hW _ _ => R.calls hS hL hval hW

theorem RowOk.lifted_upto {C : Checked} {f : FuncId} {fn : Func} {s : ChangeSpec} {xs : List (Bool × List TY)} (R : RowOk C.prog f fn s xs) {S : FSpec} (hS : Snd C.prog f S) (hL : Law S xs) {os : Os} (started : os.Started) {H : Type} {enc : TypeId × Value → H} {conds : List PathCond} {apart fresh handsOn : Bool} {so : OpenSpec} {k : (H : Type) → List (DataW H) → Bool} {F : Stop.Interp}
    (hk : so.cond = some k) (hs : so.at F = s) (hso : so.vars = s.vars)
    (witness : ∃ (w : World) (tape : Tape) (i : Input), w.os = os ∧ (w.forCall tape i).Shaped C.prog ∧ i.vars = [] ∧ Input.okWide C.prog (w.forCall tape i) .any w.heap.size f i ∧
      so.pre6 enc C.prog fn conds apart (w.forCall tape i).memory i.args ∧ ({} : Assume).holds C.prog (lone (Frame.enter C.prog f i.args .normal) [] (w.forCall tape i))) :
    ReturnsInHanded {} C os f .any (so.pre6 enc C.prog fn conds apart) ((so.at F).post enc C.prog fn apart fresh handsOn false) :=
  returnsInHanded_of_cond hk R.own started R.noInit R.isf witness fun W base args ds gs before hval hW _ _ _ => by
    rw [hs]; exact R.calls hS hL hval (by rw [← hso]; exact hW)

end Go.D

/- The facts of the rows of this seat. -/
namespace Go.Proofs.Ythegocjfnjfkdaa
open Go.D
set_option linter.all false
set_option maxRecDepth 100000

theorem own : ownKnob Try.prog.godebug = none := by kernel_rfl
theorem laid : laidOutB Try.prog = true := by kernel_rfl
theorem rowed : mapsRowed Try.prog = true := by kernel_rfl
theorem full : slicesFull Try.prog = true := by kernel_rfl

theorem hasTs_cons {h : List Blk} {t : TY} {ts : List TY} {ss : List S} (H : hasTs h (t :: ts) ss) : ∃ s ss', ss = s :: ss' ∧ hasT h t s ∧ hasTs h ts ss' := by
  cases ss with
  | nil => exact H.elim
  | cons s ss => exact ⟨s, ss, rfl, H.1, H.2⟩
theorem hasTs_nil {h : List Blk} {ss : List S} (H : hasTs h [] ss) : ss = [] := by
  cases ss with
  | nil => rfl
  | cons s ss => exact H.elim
theorem hasT_int {h : List Blk} {k : IntKind} {s : S} (H : hasT h (.int k) s) : ∃ n, s = .i k n ∧ (Lit.int k n).wf = true := H
theorem hasT_bool {h : List Blk} {s : S} (H : hasT h .bool s) : ∃ b, s = .b b := H
/-- The arguments, one by one. -/
theorem law1 {h : List Blk} {x : Bool × List TY} {us : List V} (H : hasVs h [x] us) : ∃ u, us = [u] ∧ hasV h x u := by
  match us, H with
  | [u], H => exact ⟨u, rfl, H.1⟩
  | [], H => exact H.elim
  | _ :: _ :: _, H => exact H.2.elim
theorem law2 {h : List Blk} {x y : Bool × List TY} {us : List V} (H : hasVs h [x, y] us) : ∃ u v, us = [u, v] ∧ hasV h x u ∧ hasV h y v := by
  match us, H with
  | [u, v], H => exact ⟨u, v, rfl, H.1, H.2.1⟩
  | [], H => exact H.elim
  | [_], H => exact H.2.elim
  | _ :: _ :: _ :: _, H => exact H.2.2.elim
theorem law3 {h : List Blk} {x y z : Bool × List TY} {us : List V} (H : hasVs h [x, y, z] us) : ∃ u v w, us = [u, v, w] ∧ hasV h x u ∧ hasV h y v ∧ hasV h z w := by
  match us, H with
  | [u, v, w], H => exact ⟨u, v, w, rfl, H.1, H.2.1, H.2.2.1⟩
  | [], H => exact H.elim
  | [_], H => exact H.2.elim
  | [_, _], H => exact H.2.2.elim
  | _ :: _ :: _ :: _ :: _, H => exact H.2.2.2.elim
theorem hasV_int {h : List Blk} {k : IntKind} {v : V} (H : hasV h (false, [.int k]) v) : ∃ n, v = .s (.i k n) ∧ (Lit.int k n).wf = true := by
  obtain ⟨s, rfl, ⟨n, rfl, hn⟩, _⟩ := H
  exact ⟨n, rfl, hn⟩

/-- A slice of elements that are read one by one. -/
theorem hasT_arr {α : Type} {c : α → List S} {h : List Blk} {e : List TY} (hd : ∀ ss, hasTs h e ss → ∃ x, ss = c x) : ∀ (E : List (List S)), (∀ x, x ∈ E → hasTs h e x) → ∃ L : List α, E.flatten = arr c L ∧ L.length = E.length
  | [], _ => ⟨[], rfl, rfl⟩
  | x :: E, H => by
    obtain ⟨y, rfl⟩ := hd x (H x List.mem_cons_self)
    obtain ⟨L, e1, e2⟩ := hasT_arr hd E (fun z hz => H z (List.mem_cons_of_mem _ hz))
    exact ⟨y :: L, by simp [arr, e1], by simp [e2]⟩
end Go.Proofs.Ythegocjfnjfkdaa

/- Slices as arguments of a statement. -/
namespace Go.Proofs.Ythegocjfnjfkdaa
open Go.D
set_option linter.all false
set_option maxRecDepth 100000

/-- A slice of elements, as an argument. -/
def IsArr {α : Type} (c : α → List S) (h : List Blk) (s : S) (L : List α) : Prop :=
  (s = .ns ∧ L = []) ∨ ∃ j c' st room, s = .sl (.g j) 0 L.length c' ∧ h[j]? = some ⟨st, arr c L, room⟩ ∧ (L.length ≠ 0 → st ≠ .dead)
theorem hasT_arrP {α : Type} {c : α → List S} {p : α → Prop} {h : List Blk} {e : List TY} (hd : ∀ ss, hasTs h e ss → ∃ x, ss = c x ∧ p x) : ∀ (E : List (List S)), (∀ x, x ∈ E → hasTs h e x) → ∃ L : List α, E.flatten = arr c L ∧ L.length = E.length ∧ ∀ x, x ∈ L → p x
  | [], _ => ⟨[], rfl, rfl, fun x hx => by cases hx⟩
  | x :: E, H => by
    obtain ⟨y, rfl, hy⟩ := hd x (H x List.mem_cons_self)
    obtain ⟨L, e1, e2, e3⟩ := hasT_arrP hd E (fun z hz => H z (List.mem_cons_of_mem _ hz))
    refine ⟨y :: L, by simp [arr, e1], by simp [e2], fun z hz => ?_⟩
    rcases List.mem_cons.1 hz with rfl | hz
    · exact hy
    · exact e3 z hz
theorem isArr_of {α : Type} {c : α → List S} {p : α → Prop} {h : List Blk} {e : List TY} {s : S} (hd : ∀ ss, hasTs h e ss → ∃ x, ss = c x ∧ p x) (H : hasT h (.slice e) s) : ∃ L : List α, IsArr c h s L ∧ (∀ x, x ∈ L → p x) ∧ L.length ≤ 9223372036854775807 := by
  rcases H with rfl | ⟨j, n, cp, E, st, room, rfl, h1, h2, h3, h4, h5, h6, h7⟩
  · exact ⟨[], .inl ⟨rfl, rfl⟩, (fun x hx => by cases hx), by simp⟩
  · obtain ⟨L, e1, e2, e3⟩ := hasT_arrP (c := c) (p := p) hd E h7
    have hn : L.length = n := by omega
    refine ⟨L, .inr ⟨j, cp, st, room, by rw [hn], by rw [← e1]; exact h3, fun h0 e => ?_⟩, e3, ?_⟩
    · have := h5 (by omega)
      rw [this] at e; cases e
    · simp only [maxLen] at h2
      omega
theorem hasV_slice {α : Type} {c : α → List S} {p : α → Prop} {h : List Blk} {e : List TY} {v : V} (hd : ∀ ss, hasTs h e ss → ∃ x, ss = c x ∧ p x) (H : hasV h (false, [.slice e]) v) : ∃ (s : S) (L : List α), v = .s s ∧ IsArr c h s L ∧ (∀ x, x ∈ L → p x) ∧ L.length ≤ 9223372036854775807 := by
  obtain ⟨s, rfl, H1, _⟩ := H
  obtain ⟨L, e1, e2, e3⟩ := isArr_of hd H1
  exact ⟨s, L, rfl, e1, e2, e3⟩
def In.c (n : Int) : List S := [.i .i64 n]
theorem In.c_len (n : Int) : (In.c n).length = 1 := rfl
end Go.Proofs.Ythegocjfnjfkdaa

/- Law 07: SlotsPlays. -/
namespace Go.Proofs.Ythegocjfnjfkdaa
open Go.D
set_option linter.all false
set_option maxRecDepth 100000
set_option maxHeartbeats 4000000

def madeG : List V → List Blk → Res
  | [.s (.i .i64 b)], h => .br (decide (11 ≤ b) && decide (b ≤ 16)) (.ok (.s (.p (.g (h.length + 2 + 2)) 0)) [] (bothH h (M.zero b.toNat))) (.ok (.s .np) [] h)
  | _, _ => .bad
theorem made_snd : Snd Try.prog 45 (FSpec.of madeG) := snd_run T8_snd mixed Try.func45 dc45 200 fun args h K hc hS => by
  unfold madeG at hS
  split at hS
  · rename_i b
    simp only [spec_br, spec_ok] at hS
    cases hb : decide (11 ≤ b) && decide (b ≤ 16) with
    | false =>
      have hS := hS.2 hb
      simp (config := { maxSteps := 10000000 }) only [EV1, EV2, EV3, EV4, EV5, EV6, addT, istep, pickR, putD, bin1R, un1R, slcR, bnd, capsOf, fillP, V.plain, V.cells, V.known, C.v, blk, setL, setH, eqS, eq1, cmpS, cmp1, isNil, popTo, killT, setT, leT, V.below, S.below, R.below, V.val, C.val, S.val, R.val, R.takes, vals, shows, unnamed, V.kill, V.names, C.names, S.names, R.names, List.set, List.replicate, ↓q_cond_t, ↓q_cond_f, if_true, if_false, reduceCtorEq, rvals, rvC, result, C.known, V.noL, C.noL, S.noL, R.noL, Option.map, true_and, and_true, ge_iff_le, gt_iff_lt, implies_true, q_ite_t, q_ite_f, beq_iff_eq, bne_iff_ne, q_ne, Nat.reduceAdd, Nat.reducePow, Int.reducePow, Nat.reduceMul, Nat.reduceSub, Nat.reduceLeDiff, Nat.reduceLT, Nat.reduceEqDiff, Int.reduceNeg, Int.reduceLT, Int.reduceLE, Int.reduceEq, Int.reduceNe, Int.reduceAdd, Int.reduceSub, Int.reduceMul, Int.reduceToNat, Int.reduceBEq, Int.reduceBNe, df45, T8, newM, hb]
      exact hS
    | true =>
      have hS := hS.1 hb
      have hb2 : 11 ≤ b ∧ b ≤ 16 := by simpa using hb
      simp (config := { maxSteps := 10000000 }) only [EV1, EV2, EV3, EV4, EV5, EV6, addT, istep, pickR, putD, bin1R, un1R, slcR, bnd, capsOf, fillP, V.plain, V.cells, V.known, C.v, blk, setL, setH, eqS, eq1, cmpS, cmp1, isNil, popTo, killT, setT, leT, V.below, S.below, R.below, V.val, C.val, S.val, R.val, R.takes, vals, shows, unnamed, V.kill, V.names, C.names, S.names, R.names, List.set, List.replicate, ↓q_cond_t, ↓q_cond_f, if_true, if_false, reduceCtorEq, rvals, rvC, result, C.known, V.noL, C.noL, S.noL, R.noL, Option.map, true_and, and_true, ge_iff_le, gt_iff_lt, implies_true, q_ite_t, q_ite_f, beq_iff_eq, bne_iff_ne, q_ne, Nat.reduceAdd, Nat.reducePow, Int.reducePow, Nat.reduceMul, Nat.reduceSub, Nat.reduceLeDiff, Nat.reduceLT, Nat.reduceEqDiff, Int.reduceNeg, Int.reduceLT, Int.reduceLE, Int.reduceEq, Int.reduceNe, Int.reduceAdd, Int.reduceSub, Int.reduceMul, Int.reduceToNat, Int.reduceBEq, Int.reduceBNe, df45, T8, newM, hb2.1, hb2.2, fillP, put, memH_len]
      refine ⟨[0], by simp, rfl, ?_⟩
      simp only [getAll, List.getElem?_cons_zero]
      refine ⟨?_, ?_⟩
      · simp [S.kept, R.kept]
      · refine cast ?_ hS
        simp [bothH, bothB, V.ren, S.ren, R.prom, Blk.ren, memH_len, List.idxOf, List.findIdx, List.findIdx.go]
  · exact hS.elim

noncomputable def alikeG := bothF fun m st args => match args with
  | [] => .ok (.s (.b true)) [] (st m)
  | _ => .bad
theorem alike_snd : Snd Try.prog 48 (FSpec.of alikeG) := snd_cut T8_snd mixed Try.func48 dc48 200 fun args H K hc hS => by
  obtain ⟨h, m, rest, rfl, rfl, hS1⟩ := bothF_spec hS
  clear hS
  split at hS1
  · simp only [spec_ok] at hS1
    have hx : m.has 0 m.w.length = true := M.has_of (by omega)
    have w1 : m.w.take m.w.length = m.w := List.take_length
    have hl := m.l
    have b1 : m.w.length ≤ 8796093022208 := by omega
    have hb : ∀ c : Nat, (memH (memH h m) m ++ [⟨BK.rw, [.p (.g h.length) 0, .p (.g (h.length + 2)) 0], 2⟩, ⟨BK.rw, wc m.w, c⟩])[h.length + 3]? = some (MW m) := fun c => (memH_is2 h m m).app.hb
    have ha2 : ∀ X, (memH (memH h m) m ++ X)[h.length + 2]? = some (MB (h.length + 3) m) := fun X => (memH_is2 h m m).app.ha
    have hL1 : ∀ c : Nat, listOf (memH (memH h m) m ++ [⟨BK.rw, [.p (.g h.length) 0, .p (.g (h.length + 2)) 0], 2⟩, ⟨BK.rw, wc m.w, c⟩]) (.sl (.g (h.length + 2 + 2 + 1)) 0 m.w.length c) = some m.w := fun c => listOf_at (st := .rw) (room := c) (by rw [nh1]; rfl) (fun x => BK.noConfusion x) rfl
    have hL2 : ∀ c : Nat, listOf (memH (memH h m) m ++ [⟨BK.rw, [.p (.g h.length) 0, .p (.g (h.length + 2)) 0], 2⟩, ⟨BK.rw, wc m.w, c⟩]) (.sl (.g (h.length + 3)) 0 m.w.length m.w.length) = some m.w := fun c => listOf_at (st := .rw) (room := m.w.length) (hb c) (fun x => BK.noConfusion x) rfl
    simp (config := { maxSteps := 10000000 }) only [EV1, EV2, EV3, EV4, EV5, EV6, addT, istep, pickR, putD, bin1R, un1R, slcR, bnd, capsOf, fillP, V.plain, V.cells, V.known, C.v, blk, setL, setH, eqS, eq1, cmpS, cmp1, isNil, popTo, killT, setT, leT, V.below, S.below, R.below, V.val, C.val, S.val, R.val, R.takes, vals, shows, unnamed, V.kill, V.names, C.names, S.names, R.names, List.set, List.replicate, ↓q_cond_t, ↓q_cond_f, if_true, if_false, reduceCtorEq, rvals, rvC, result, C.known, V.noL, C.noL, S.noL, R.noL, Option.map, true_and, and_true, ge_iff_le, gt_iff_lt, implies_true, q_ite_t, q_ite_f, beq_iff_eq, bne_iff_ne, q_ne, Nat.reduceAdd, Nat.reducePow, Int.reducePow, Nat.reduceMul, Nat.reduceSub, Nat.reduceLeDiff, Nat.reduceLT, Nat.reduceEqDiff, Int.reduceNeg, Int.reduceLT, Int.reduceLE, Int.reduceEq, Int.reduceNe, Int.reduceAdd, Int.reduceSub, Int.reduceMul, Int.reduceToNat, Int.reduceBEq, Int.reduceBNe, df48, T8, bothH, bothB, nh0, ha2, MB, memF_new1A, memF_new2A, dumpG, dumpM, hx, Int.toNat_natCast, w1, sameWG, hL1, hL2, b1, put, fillP, mh2_len, memH_len, List.drop_zero]
    intro c hc1
    rw [bothH_len] at hc
    refine ⟨bothH h m, [⟨.rw, wc m.w, c⟩], by simp [bothH, bothB], by rw [bothH_len]; omega, by rw [bothH_len]; exact hc, rfl, hS1⟩
  · exact hS1.elim

noncomputable def TPy : Tab := addT 48 alikeG (addT 46 playG (addT 47 askG (addT 45 madeG T8)))
theorem TPy_snd : TPy.Snd Try.prog := addT_snd ok48 alike_snd (addT_snd ok46 play_snd (addT_snd ok47 ask_snd (addT_snd ok45 made_snd T8_snd)))
theorem Op.cl_len (o : Op) : o.cl.length = 20 := rfl
def opZ : Op := ⟨0, false, 0, 0, 0, 0, slotZ⟩
def slotsPlaysS : FSpec := fun args h K => ∃ (b : Int) (s1 s2 : S) (L : List Op) (A : List Int), args = [.s (.i .i64 b), .s s1, .s s2] ∧ IsArr Op.cl h s1 L ∧ IsArr In.c h s2 A ∧ (∀ o, o ∈ L → o.u) ∧ L.length ≤ 9223372036854775807 ∧ A.length ≤ 9223372036854775807 ∧ ∀ h', K (.s (.b true)) h'
end Go.Proofs.Ythegocjfnjfkdaa

/- Law 07: SlotsPlays: the walk. (Printed by gen_SC.py.) -/
namespace Go.Proofs.Ythegocjfnjfkdaa
open Go.D
set_option linter.all false
set_option maxRecDepth 100000
set_option maxHeartbeats 4000000

theorem bhl {h : List Blk} {j : Nat} {B : Blk} (hj : h[j]? = some B) (m : M) : (bothH h m)[j]? = some B := by
  rw [bothH, nhl (List.getElem?_eq_some_iff.1 hj).1]; exact hj
theorem slotsPlays_snd : Snd Try.prog 13 slotsPlaysS := (fwp_sound (Tab.snd_Γ TPy_snd) mixed Try.func13 dc13).weaken fun args h K hc hS => by
  obtain ⟨b, s1, s2, L, A, rfl, H1, H2, hu, l1, l2, hK⟩ := hS
  refine fwp_run (Tab.ok_Γ _) 400 ?_
  rcases H1 with ⟨rfl, rfl⟩ | ⟨j1, c1, st1, r1, rfl, hj1, hd1⟩
  · rcases H2 with ⟨rfl, rfl⟩ | ⟨j2, c2, st2, r2, rfl, hj2, hd2⟩
    · by_cases c1 : b < 11
      · simp (config := { maxSteps := 10000000 }) only [EV1, EV2, EV3, EV4, EV5, EV6, addT, istep, pickR, putD, bin1R, un1R, slcR, bnd, capsOf, fillP, V.plain, V.cells, V.known, C.v, blk, setL, setH, eqS, eq1, cmpS, cmp1, isNil, popTo, killT, setT, leT, V.below, S.below, R.below, V.val, C.val, S.val, R.val, R.takes, vals, shows, unnamed, V.kill, V.names, C.names, S.names, R.names, List.set, List.replicate, ↓q_cond_t, ↓q_cond_f, if_true, if_false, reduceCtorEq, rvals, rvC, result, C.known, V.noL, C.noL, S.noL, R.noL, Option.map, true_and, and_true, ge_iff_le, gt_iff_lt, implies_true, q_ite_t, q_ite_f, beq_iff_eq, bne_iff_ne, q_ne, Nat.reduceAdd, Nat.reducePow, Int.reducePow, Nat.reduceMul, Nat.reduceSub, Nat.reduceLeDiff, Nat.reduceLT, Nat.reduceEqDiff, Int.reduceNeg, Int.reduceLT, Int.reduceLE, Int.reduceEq, Int.reduceNe, Int.reduceAdd, Int.reduceSub, Int.reduceMul, Int.reduceToNat, Int.reduceBEq, Int.reduceBNe, df13, TPy, T8, awake7G, c1]
        exact hK _
      by_cases c2 : 16 < b
      · simp (config := { maxSteps := 10000000 }) only [EV1, EV2, EV3, EV4, EV5, EV6, addT, istep, pickR, putD, bin1R, un1R, slcR, bnd, capsOf, fillP, V.plain, V.cells, V.known, C.v, blk, setL, setH, eqS, eq1, cmpS, cmp1, isNil, popTo, killT, setT, leT, V.below, S.below, R.below, V.val, C.val, S.val, R.val, R.takes, vals, shows, unnamed, V.kill, V.names, C.names, S.names, R.names, List.set, List.replicate, ↓q_cond_t, ↓q_cond_f, if_true, if_false, reduceCtorEq, rvals, rvC, result, C.known, V.noL, C.noL, S.noL, R.noL, Option.map, true_and, and_true, ge_iff_le, gt_iff_lt, implies_true, q_ite_t, q_ite_f, beq_iff_eq, bne_iff_ne, q_ne, Nat.reduceAdd, Nat.reducePow, Int.reducePow, Nat.reduceMul, Nat.reduceSub, Nat.reduceLeDiff, Nat.reduceLT, Nat.reduceEqDiff, Int.reduceNeg, Int.reduceLT, Int.reduceLE, Int.reduceEq, Int.reduceNe, Int.reduceAdd, Int.reduceSub, Int.reduceMul, Int.reduceToNat, Int.reduceBEq, Int.reduceBNe, df13, TPy, T8, awake7G, c1, c2]
        exact hK _
      have c3 : 11 ≤ b := by omega
      have c4 : b ≤ 16 := by omega
      simp (config := { maxSteps := 10000000 }) only [EV1, EV2, EV3, EV4, EV5, EV6, addT, istep, pickR, putD, bin1R, un1R, slcR, bnd, capsOf, fillP, V.plain, V.cells, V.known, C.v, blk, setL, setH, eqS, eq1, cmpS, cmp1, isNil, popTo, killT, setT, leT, V.below, S.below, R.below, V.val, C.val, S.val, R.val, R.takes, vals, shows, unnamed, V.kill, V.names, C.names, S.names, R.names, List.set, List.replicate, ↓q_cond_t, ↓q_cond_f, if_true, if_false, reduceCtorEq, rvals, rvC, result, C.known, V.noL, C.noL, S.noL, R.noL, Option.map, true_and, and_true, ge_iff_le, gt_iff_lt, implies_true, q_ite_t, q_ite_f, beq_iff_eq, bne_iff_ne, q_ne, Nat.reduceAdd, Nat.reducePow, Int.reducePow, Nat.reduceMul, Nat.reduceSub, Nat.reduceLeDiff, Nat.reduceLT, Nat.reduceEqDiff, Int.reduceNeg, Int.reduceLT, Int.reduceLE, Int.reduceEq, Int.reduceNe, Int.reduceAdd, Int.reduceSub, Int.reduceMul, Int.reduceToNat, Int.reduceBEq, Int.reduceBNe, df13, TPy, T8, awake7G, madeG, playG, askG, bothF_eq, playM, askM, alikeG, op_eta, c1, c2, c3, c4]
      rw [holds_loop]
      refine swp_loop fun X hX => ?_
      refine hX _ ?_
      refine run_sound (Tab.ok_Γ _) 400 _ _ _ _ ?_
      simp (config := { maxSteps := 10000000 }) only [EV1, EV2, EV3, EV4, EV5, EV6, addT, istep, pickR, putD, bin1R, un1R, slcR, bnd, capsOf, fillP, V.plain, V.cells, V.known, C.v, blk, setL, setH, eqS, eq1, cmpS, cmp1, isNil, popTo, killT, setT, leT, V.below, S.below, R.below, V.val, C.val, S.val, R.val, R.takes, vals, shows, unnamed, V.kill, V.names, C.names, S.names, R.names, List.set, List.replicate, ↓q_cond_t, ↓q_cond_f, if_true, if_false, reduceCtorEq, rvals, rvC, result, C.known, V.noL, C.noL, S.noL, R.noL, Option.map, true_and, and_true, ge_iff_le, gt_iff_lt, implies_true, q_ite_t, q_ite_f, beq_iff_eq, bne_iff_ne, q_ne, Nat.reduceAdd, Nat.reducePow, Int.reducePow, Nat.reduceMul, Nat.reduceSub, Nat.reduceLeDiff, Nat.reduceLT, Nat.reduceEqDiff, Int.reduceNeg, Int.reduceLT, Int.reduceLE, Int.reduceEq, Int.reduceNe, Int.reduceAdd, Int.reduceSub, Int.reduceMul, Int.reduceToNat, Int.reduceBEq, Int.reduceBNe, TPy, T8, awake7G, madeG, playG, askG, bothF_eq, playM, askM, alikeG, op_eta, Int.lt_irrefl, q_cast, Int.natCast_zero]
      obtain ⟨m, hm⟩ : ∃ m, M.zero b.toNat = m := ⟨_, rfl⟩
      rw [hm]
      rw [holds_loop]
      refine swp_loop fun Y hY => ?_
      refine hY _ ?_
      refine run_sound (Tab.ok_Γ _) 400 _ _ _ _ ?_
      simp (config := { maxSteps := 10000000 }) only [EV1, EV2, EV3, EV4, EV5, EV6, addT, istep, pickR, putD, bin1R, un1R, slcR, bnd, capsOf, fillP, V.plain, V.cells, V.known, C.v, blk, setL, setH, eqS, eq1, cmpS, cmp1, isNil, popTo, killT, setT, leT, V.below, S.below, R.below, V.val, C.val, S.val, R.val, R.takes, vals, shows, unnamed, V.kill, V.names, C.names, S.names, R.names, List.set, List.replicate, ↓q_cond_t, ↓q_cond_f, if_true, if_false, reduceCtorEq, rvals, rvC, result, C.known, V.noL, C.noL, S.noL, R.noL, Option.map, true_and, and_true, ge_iff_le, gt_iff_lt, implies_true, q_ite_t, q_ite_f, beq_iff_eq, bne_iff_ne, q_ne, Nat.reduceAdd, Nat.reducePow, Int.reducePow, Nat.reduceMul, Nat.reduceSub, Nat.reduceLeDiff, Nat.reduceLT, Nat.reduceEqDiff, Int.reduceNeg, Int.reduceLT, Int.reduceLE, Int.reduceEq, Int.reduceNe, Int.reduceAdd, Int.reduceSub, Int.reduceMul, Int.reduceToNat, Int.reduceBEq, Int.reduceBNe, TPy, T8, awake7G, madeG, playG, askG, bothF_eq, playM, askM, alikeG, op_eta, Int.lt_irrefl, q_cast, Int.natCast_zero]
      exact hK _
    · have hb2 := bhl hj2
      by_cases n2 : (2147483647 : Int) < A.length
      · simp (config := { maxSteps := 10000000 }) only [EV1, EV2, EV3, EV4, EV5, EV6, addT, istep, pickR, putD, bin1R, un1R, slcR, bnd, capsOf, fillP, V.plain, V.cells, V.known, C.v, blk, setL, setH, eqS, eq1, cmpS, cmp1, isNil, popTo, killT, setT, leT, V.below, S.below, R.below, V.val, C.val, S.val, R.val, R.takes, vals, shows, unnamed, V.kill, V.names, C.names, S.names, R.names, List.set, List.replicate, ↓q_cond_t, ↓q_cond_f, if_true, if_false, reduceCtorEq, rvals, rvC, result, C.known, V.noL, C.noL, S.noL, R.noL, Option.map, true_and, and_true, ge_iff_le, gt_iff_lt, implies_true, q_ite_t, q_ite_f, beq_iff_eq, bne_iff_ne, q_ne, Nat.reduceAdd, Nat.reducePow, Int.reducePow, Nat.reduceMul, Nat.reduceSub, Nat.reduceLeDiff, Nat.reduceLT, Nat.reduceEqDiff, Int.reduceNeg, Int.reduceLT, Int.reduceLE, Int.reduceEq, Int.reduceNe, Int.reduceAdd, Int.reduceSub, Int.reduceMul, Int.reduceToNat, Int.reduceBEq, Int.reduceBNe, df13, n2]
        exact hK _
      by_cases c1 : b < 11
      · simp (config := { maxSteps := 10000000 }) only [EV1, EV2, EV3, EV4, EV5, EV6, addT, istep, pickR, putD, bin1R, un1R, slcR, bnd, capsOf, fillP, V.plain, V.cells, V.known, C.v, blk, setL, setH, eqS, eq1, cmpS, cmp1, isNil, popTo, killT, setT, leT, V.below, S.below, R.below, V.val, C.val, S.val, R.val, R.takes, vals, shows, unnamed, V.kill, V.names, C.names, S.names, R.names, List.set, List.replicate, ↓q_cond_t, ↓q_cond_f, if_true, if_false, reduceCtorEq, rvals, rvC, result, C.known, V.noL, C.noL, S.noL, R.noL, Option.map, true_and, and_true, ge_iff_le, gt_iff_lt, implies_true, q_ite_t, q_ite_f, beq_iff_eq, bne_iff_ne, q_ne, Nat.reduceAdd, Nat.reducePow, Int.reducePow, Nat.reduceMul, Nat.reduceSub, Nat.reduceLeDiff, Nat.reduceLT, Nat.reduceEqDiff, Int.reduceNeg, Int.reduceLT, Int.reduceLE, Int.reduceEq, Int.reduceNe, Int.reduceAdd, Int.reduceSub, Int.reduceMul, Int.reduceToNat, Int.reduceBEq, Int.reduceBNe, df13, TPy, T8, awake7G, c1, n2]
        exact hK _
      by_cases c2 : 16 < b
      · simp (config := { maxSteps := 10000000 }) only [EV1, EV2, EV3, EV4, EV5, EV6, addT, istep, pickR, putD, bin1R, un1R, slcR, bnd, capsOf, fillP, V.plain, V.cells, V.known, C.v, blk, setL, setH, eqS, eq1, cmpS, cmp1, isNil, popTo, killT, setT, leT, V.below, S.below, R.below, V.val, C.val, S.val, R.val, R.takes, vals, shows, unnamed, V.kill, V.names, C.names, S.names, R.names, List.set, List.replicate, ↓q_cond_t, ↓q_cond_f, if_true, if_false, reduceCtorEq, rvals, rvC, result, C.known, V.noL, C.noL, S.noL, R.noL, Option.map, true_and, and_true, ge_iff_le, gt_iff_lt, implies_true, q_ite_t, q_ite_f, beq_iff_eq, bne_iff_ne, q_ne, Nat.reduceAdd, Nat.reducePow, Int.reducePow, Nat.reduceMul, Nat.reduceSub, Nat.reduceLeDiff, Nat.reduceLT, Nat.reduceEqDiff, Int.reduceNeg, Int.reduceLT, Int.reduceLE, Int.reduceEq, Int.reduceNe, Int.reduceAdd, Int.reduceSub, Int.reduceMul, Int.reduceToNat, Int.reduceBEq, Int.reduceBNe, df13, TPy, T8, awake7G, c1, c2, n2]
        exact hK _
      have c3 : 11 ≤ b := by omega
      have c4 : b ≤ 16 := by omega
      simp (config := { maxSteps := 10000000 }) only [EV1, EV2, EV3, EV4, EV5, EV6, addT, istep, pickR, putD, bin1R, un1R, slcR, bnd, capsOf, fillP, V.plain, V.cells, V.known, C.v, blk, setL, setH, eqS, eq1, cmpS, cmp1, isNil, popTo, killT, setT, leT, V.below, S.below, R.below, V.val, C.val, S.val, R.val, R.takes, vals, shows, unnamed, V.kill, V.names, C.names, S.names, R.names, List.set, List.replicate, ↓q_cond_t, ↓q_cond_f, if_true, if_false, reduceCtorEq, rvals, rvC, result, C.known, V.noL, C.noL, S.noL, R.noL, Option.map, true_and, and_true, ge_iff_le, gt_iff_lt, implies_true, q_ite_t, q_ite_f, beq_iff_eq, bne_iff_ne, q_ne, Nat.reduceAdd, Nat.reducePow, Int.reducePow, Nat.reduceMul, Nat.reduceSub, Nat.reduceLeDiff, Nat.reduceLT, Nat.reduceEqDiff, Int.reduceNeg, Int.reduceLT, Int.reduceLE, Int.reduceEq, Int.reduceNe, Int.reduceAdd, Int.reduceSub, Int.reduceMul, Int.reduceToNat, Int.reduceBEq, Int.reduceBNe, df13, TPy, T8, awake7G, madeG, playG, askG, bothF_eq, playM, askM, alikeG, op_eta, c1, c2, c3, c4, n2]
      rw [holds_loop]
      refine swp_loop fun X hX => ?_
      refine hX _ ?_
      refine run_sound (Tab.ok_Γ _) 400 _ _ _ _ ?_
      simp (config := { maxSteps := 10000000 }) only [EV1, EV2, EV3, EV4, EV5, EV6, addT, istep, pickR, putD, bin1R, un1R, slcR, bnd, capsOf, fillP, V.plain, V.cells, V.known, C.v, blk, setL, setH, eqS, eq1, cmpS, cmp1, isNil, popTo, killT, setT, leT, V.below, S.below, R.below, V.val, C.val, S.val, R.val, R.takes, vals, shows, unnamed, V.kill, V.names, C.names, S.names, R.names, List.set, List.replicate, ↓q_cond_t, ↓q_cond_f, if_true, if_false, reduceCtorEq, rvals, rvC, result, C.known, V.noL, C.noL, S.noL, R.noL, Option.map, true_and, and_true, ge_iff_le, gt_iff_lt, implies_true, q_ite_t, q_ite_f, beq_iff_eq, bne_iff_ne, q_ne, Nat.reduceAdd, Nat.reducePow, Int.reducePow, Nat.reduceMul, Nat.reduceSub, Nat.reduceLeDiff, Nat.reduceLT, Nat.reduceEqDiff, Int.reduceNeg, Int.reduceLT, Int.reduceLE, Int.reduceEq, Int.reduceNe, Int.reduceAdd, Int.reduceSub, Int.reduceMul, Int.reduceToNat, Int.reduceBEq, Int.reduceBNe, TPy, T8, awake7G, madeG, playG, askG, bothF_eq, playM, askM, alikeG, op_eta, Int.lt_irrefl, q_cast, Int.natCast_zero]
      obtain ⟨m, hm⟩ : ∃ m, M.zero b.toNat = m := ⟨_, rfl⟩
      rw [hm]
      refine loop_rule (α := Nat × M) [6, 12, 13, 60, 61, 62, 63, 64, 65, 66, 67, 68, 69, 70, 71, 72, 73] (fun x => [(12, .s (.i .i64 x.1))]) (fun _ => []) (fun x => bothH h x.2) (fun x => x.1 ≤ A.length) (fun x => A.length - x.1) (0, m) (by simp only; omega) ?_ ?_
      · refine Wk.same rfl rfl ?_
        simp (config := { maxSteps := 10000000 }) only [EV1, EV2, EV3, EV4, EV5, EV6, addT, istep, pickR, putD, bin1R, un1R, slcR, bnd, capsOf, fillP, V.plain, V.cells, V.known, C.v, blk, setL, setH, eqS, eq1, cmpS, cmp1, isNil, popTo, killT, setT, leT, V.below, S.below, R.below, V.val, C.val, S.val, R.val, R.takes, vals, shows, unnamed, V.kill, V.names, C.names, S.names, R.names, List.set, List.replicate, ↓q_cond_t, ↓q_cond_f, if_true, if_false, reduceCtorEq, rvals, rvC, result, C.known, V.noL, C.noL, S.noL, R.noL, Option.map, true_and, and_true, ge_iff_le, gt_iff_lt, implies_true, q_ite_t, q_ite_f, beq_iff_eq, bne_iff_ne, q_ne, Nat.reduceAdd, Nat.reducePow, Int.reducePow, Nat.reduceMul, Nat.reduceSub, Nat.reduceLeDiff, Nat.reduceLT, Nat.reduceEqDiff, Int.reduceNeg, Int.reduceLT, Int.reduceLE, Int.reduceEq, Int.reduceNe, Int.reduceAdd, Int.reduceSub, Int.reduceMul, Int.reduceToNat, Int.reduceBEq, Int.reduceBNe, q_cast, Int.natCast_zero]
      · rintro Y ⟨i, m⟩ hi IH
        simp only at hi IH ⊢
        rcases Nat.lt_or_ge i A.length with h1 | h1
        · obtain ⟨d1, d2, d3, d4⟩ := idx h1 l2
          have hdd := hd2 (by omega)
          have g0 : (arr In.c A)[i]? = some (.i .i64 (nth 0 A i)) := by
            have := arr_get0 In.c_len h1 (by omega)
            rw [Nat.mul_one] at this
            rw [this, nth_eq h1]; rfl
          refine run_sound (Tab.ok_Γ _) 200 _ _ _ _ ?_
          simp (config := { maxSteps := 10000000 }) only [EV1, EV2, EV3, EV4, EV5, EV6, addT, istep, pickR, putD, bin1R, un1R, slcR, bnd, capsOf, fillP, V.plain, V.cells, V.known, C.v, blk, setL, setH, eqS, eq1, cmpS, cmp1, isNil, popTo, killT, setT, leT, V.below, S.below, R.below, V.val, C.val, S.val, R.val, R.takes, vals, shows, unnamed, V.kill, V.names, C.names, S.names, R.names, List.set, List.replicate, ↓q_cond_t, ↓q_cond_f, if_true, if_false, reduceCtorEq, rvals, rvC, result, C.known, V.noL, C.noL, S.noL, R.noL, Option.map, true_and, and_true, ge_iff_le, gt_iff_lt, implies_true, q_ite_t, q_ite_f, beq_iff_eq, bne_iff_ne, q_ne, Nat.reduceAdd, Nat.reducePow, Int.reducePow, Nat.reduceMul, Nat.reduceSub, Nat.reduceLeDiff, Nat.reduceLT, Nat.reduceEqDiff, Int.reduceNeg, Int.reduceLT, Int.reduceLE, Int.reduceEq, Int.reduceNe, Int.reduceAdd, Int.reduceSub, Int.reduceMul, Int.reduceToNat, Int.reduceBEq, Int.reduceBNe, TPy, T8, awake7G, madeG, playG, askG, bothF_eq, playM, askM, alikeG, op_eta, d1, d2, d3, d4, hb2, hdd, g0, Int.toNat_natCast]
          exact IH (i + 1, _) _ (by simp only; omega) (by simp only; omega) (Wk.same rfl rfl (by simp (config := { maxSteps := 10000000 }) only [EV1, EV2, EV3, EV4, EV5, EV6, addT, istep, pickR, putD, bin1R, un1R, slcR, bnd, capsOf, fillP, V.plain, V.cells, V.known, C.v, blk, setL, setH, eqS, eq1, cmpS, cmp1, isNil, popTo, killT, setT, leT, V.below, S.below, R.below, V.val, C.val, S.val, R.val, R.takes, vals, shows, unnamed, V.kill, V.names, C.names, S.names, R.names, List.set, List.replicate, ↓q_cond_t, ↓q_cond_f, if_true, if_false, reduceCtorEq, rvals, rvC, result, C.known, V.noL, C.noL, S.noL, R.noL, Option.map, true_and, and_true, ge_iff_le, gt_iff_lt, implies_true, q_ite_t, q_ite_f, beq_iff_eq, bne_iff_ne, q_ne, Nat.reduceAdd, Nat.reducePow, Int.reducePow, Nat.reduceMul, Nat.reduceSub, Nat.reduceLeDiff, Nat.reduceLT, Nat.reduceEqDiff, Int.reduceNeg, Int.reduceLT, Int.reduceLE, Int.reduceEq, Int.reduceNe, Int.reduceAdd, Int.reduceSub, Int.reduceMul, Int.reduceToNat, Int.reduceBEq, Int.reduceBNe]))
        · have : i = A.length := by omega
          subst this
          clear IH
          refine run_sound (Tab.ok_Γ _) 400 _ _ _ _ ?_
          simp (config := { maxSteps := 10000000 }) only [EV1, EV2, EV3, EV4, EV5, EV6, addT, istep, pickR, putD, bin1R, un1R, slcR, bnd, capsOf, fillP, V.plain, V.cells, V.known, C.v, blk, setL, setH, eqS, eq1, cmpS, cmp1, isNil, popTo, killT, setT, leT, V.below, S.below, R.below, V.val, C.val, S.val, R.val, R.takes, vals, shows, unnamed, V.kill, V.names, C.names, S.names, R.names, List.set, List.replicate, ↓q_cond_t, ↓q_cond_f, if_true, if_false, reduceCtorEq, rvals, rvC, result, C.known, V.noL, C.noL, S.noL, R.noL, Option.map, true_and, and_true, ge_iff_le, gt_iff_lt, implies_true, q_ite_t, q_ite_f, beq_iff_eq, bne_iff_ne, q_ne, Nat.reduceAdd, Nat.reducePow, Int.reducePow, Nat.reduceMul, Nat.reduceSub, Nat.reduceLeDiff, Nat.reduceLT, Nat.reduceEqDiff, Int.reduceNeg, Int.reduceLT, Int.reduceLE, Int.reduceEq, Int.reduceNe, Int.reduceAdd, Int.reduceSub, Int.reduceMul, Int.reduceToNat, Int.reduceBEq, Int.reduceBNe, TPy, T8, awake7G, madeG, playG, askG, bothF_eq, playM, askM, alikeG, op_eta, Int.lt_irrefl, q_cast, Int.natCast_zero]
          exact hK _
  · rcases H2 with ⟨rfl, rfl⟩ | ⟨j2, c2, st2, r2, rfl, hj2, hd2⟩
    · have hb1 := bhl hj1
      by_cases n1 : (2147483647 : Int) < L.length
      · simp (config := { maxSteps := 10000000 }) only [EV1, EV2, EV3, EV4, EV5, EV6, addT, istep, pickR, putD, bin1R, un1R, slcR, bnd, capsOf, fillP, V.plain, V.cells, V.known, C.v, blk, setL, setH, eqS, eq1, cmpS, cmp1, isNil, popTo, killT, setT, leT, V.below, S.below, R.below, V.val, C.val, S.val, R.val, R.takes, vals, shows, unnamed, V.kill, V.names, C.names, S.names, R.names, List.set, List.replicate, ↓q_cond_t, ↓q_cond_f, if_true, if_false, reduceCtorEq, rvals, rvC, result, C.known, V.noL, C.noL, S.noL, R.noL, Option.map, true_and, and_true, ge_iff_le, gt_iff_lt, implies_true, q_ite_t, q_ite_f, beq_iff_eq, bne_iff_ne, q_ne, Nat.reduceAdd, Nat.reducePow, Int.reducePow, Nat.reduceMul, Nat.reduceSub, Nat.reduceLeDiff, Nat.reduceLT, Nat.reduceEqDiff, Int.reduceNeg, Int.reduceLT, Int.reduceLE, Int.reduceEq, Int.reduceNe, Int.reduceAdd, Int.reduceSub, Int.reduceMul, Int.reduceToNat, Int.reduceBEq, Int.reduceBNe, df13, n1]
        exact hK _
      by_cases c1 : b < 11
      · simp (config := { maxSteps := 10000000 }) only [EV1, EV2, EV3, EV4, EV5, EV6, addT, istep, pickR, putD, bin1R, un1R, slcR, bnd, capsOf, fillP, V.plain, V.cells, V.known, C.v, blk, setL, setH, eqS, eq1, cmpS, cmp1, isNil, popTo, killT, setT, leT, V.below, S.below, R.below, V.val, C.val, S.val, R.val, R.takes, vals, shows, unnamed, V.kill, V.names, C.names, S.names, R.names, List.set, List.replicate, ↓q_cond_t, ↓q_cond_f, if_true, if_false, reduceCtorEq, rvals, rvC, result, C.known, V.noL, C.noL, S.noL, R.noL, Option.map, true_and, and_true, ge_iff_le, gt_iff_lt, implies_true, q_ite_t, q_ite_f, beq_iff_eq, bne_iff_ne, q_ne, Nat.reduceAdd, Nat.reducePow, Int.reducePow, Nat.reduceMul, Nat.reduceSub, Nat.reduceLeDiff, Nat.reduceLT, Nat.reduceEqDiff, Int.reduceNeg, Int.reduceLT, Int.reduceLE, Int.reduceEq, Int.reduceNe, Int.reduceAdd, Int.reduceSub, Int.reduceMul, Int.reduceToNat, Int.reduceBEq, Int.reduceBNe, df13, TPy, T8, awake7G, c1, n1]
        exact hK _
      by_cases c2 : 16 < b
      · simp (config := { maxSteps := 10000000 }) only [EV1, EV2, EV3, EV4, EV5, EV6, addT, istep, pickR, putD, bin1R, un1R, slcR, bnd, capsOf, fillP, V.plain, V.cells, V.known, C.v, blk, setL, setH, eqS, eq1, cmpS, cmp1, isNil, popTo, killT, setT, leT, V.below, S.below, R.below, V.val, C.val, S.val, R.val, R.takes, vals, shows, unnamed, V.kill, V.names, C.names, S.names, R.names, List.set, List.replicate, ↓q_cond_t, ↓q_cond_f, if_true, if_false, reduceCtorEq, rvals, rvC, result, C.known, V.noL, C.noL, S.noL, R.noL, Option.map, true_and, and_true, ge_iff_le, gt_iff_lt, implies_true, q_ite_t, q_ite_f, beq_iff_eq, bne_iff_ne, q_ne, Nat.reduceAdd, Nat.reducePow, Int.reducePow, Nat.reduceMul, Nat.reduceSub, Nat.reduceLeDiff, Nat.reduceLT, Nat.reduceEqDiff, Int.reduceNeg, Int.reduceLT, Int.reduceLE, Int.reduceEq, Int.reduceNe, Int.reduceAdd, Int.reduceSub, Int.reduceMul, Int.reduceToNat, Int.reduceBEq, Int.reduceBNe, df13, TPy, T8, awake7G, c1, c2, n1]
        exact hK _
      have c3 : 11 ≤ b := by omega
      have c4 : b ≤ 16 := by omega
      simp (config := { maxSteps := 10000000 }) only [EV1, EV2, EV3, EV4, EV5, EV6, addT, istep, pickR, putD, bin1R, un1R, slcR, bnd, capsOf, fillP, V.plain, V.cells, V.known, C.v, blk, setL, setH, eqS, eq1, cmpS, cmp1, isNil, popTo, killT, setT, leT, V.below, S.below, R.below, V.val, C.val, S.val, R.val, R.takes, vals, shows, unnamed, V.kill, V.names, C.names, S.names, R.names, List.set, List.replicate, ↓q_cond_t, ↓q_cond_f, if_true, if_false, reduceCtorEq, rvals, rvC, result, C.known, V.noL, C.noL, S.noL, R.noL, Option.map, true_and, and_true, ge_iff_le, gt_iff_lt, implies_true, q_ite_t, q_ite_f, beq_iff_eq, bne_iff_ne, q_ne, Nat.reduceAdd, Nat.reducePow, Int.reducePow, Nat.reduceMul, Nat.reduceSub, Nat.reduceLeDiff, Nat.reduceLT, Nat.reduceEqDiff, Int.reduceNeg, Int.reduceLT, Int.reduceLE, Int.reduceEq, Int.reduceNe, Int.reduceAdd, Int.reduceSub, Int.reduceMul, Int.reduceToNat, Int.reduceBEq, Int.reduceBNe, df13, TPy, T8, awake7G, madeG, playG, askG, bothF_eq, playM, askM, alikeG, op_eta, c1, c2, c3, c4, n1]
      refine loop_rule (α := Nat × M) [6, 9, 10, 11, 35, 36, 37, 38, 39, 40, 41, 42, 43, 44, 45, 46, 47, 48, 49, 50, 51, 52, 53, 54, 55, 56, 57, 58, 59] (fun x => [(9, .s (.i .i64 x.1))]) (fun _ => []) (fun x => bothH h x.2) (fun x => x.1 ≤ L.length) (fun x => L.length - x.1) (0, M.zero b.toNat) (by simp only; omega) ?_ ?_
      · refine Wk.same rfl rfl ?_
        simp (config := { maxSteps := 10000000 }) only [EV1, EV2, EV3, EV4, EV5, EV6, addT, istep, pickR, putD, bin1R, un1R, slcR, bnd, capsOf, fillP, V.plain, V.cells, V.known, C.v, blk, setL, setH, eqS, eq1, cmpS, cmp1, isNil, popTo, killT, setT, leT, V.below, S.below, R.below, V.val, C.val, S.val, R.val, R.takes, vals, shows, unnamed, V.kill, V.names, C.names, S.names, R.names, List.set, List.replicate, ↓q_cond_t, ↓q_cond_f, if_true, if_false, reduceCtorEq, rvals, rvC, result, C.known, V.noL, C.noL, S.noL, R.noL, Option.map, true_and, and_true, ge_iff_le, gt_iff_lt, implies_true, q_ite_t, q_ite_f, beq_iff_eq, bne_iff_ne, q_ne, Nat.reduceAdd, Nat.reducePow, Int.reducePow, Nat.reduceMul, Nat.reduceSub, Nat.reduceLeDiff, Nat.reduceLT, Nat.reduceEqDiff, Int.reduceNeg, Int.reduceLT, Int.reduceLE, Int.reduceEq, Int.reduceNe, Int.reduceAdd, Int.reduceSub, Int.reduceMul, Int.reduceToNat, Int.reduceBEq, Int.reduceBNe, q_cast, Int.natCast_zero]
      · rintro X ⟨i, m⟩ hi IH
        simp only at hi IH ⊢
        rcases Nat.lt_or_ge i L.length with h1 | h1
        · obtain ⟨d1, d2, d3, d4⟩ := idx h1 l1
          have hdd := hd1 (by omega)
          obtain ⟨o, ho⟩ : ∃ o, nth opZ L i = o := ⟨_, rfl⟩
          have hou : o.u := by rw [← ho]; exact hu _ (nth_mem h1)
          have hs : sub (arr Op.cl L) (i * 20) 20 = o.cl := by rw [← ho, nth_eq h1]; exact arr_sub Op.cl_len h1
          simp only [Op.cl] at hs
          have g0 : (arr Op.cl L)[i * 20]? = some (.i .i64 o.addr) := by rw [arr_get0 Op.cl_len h1 (by omega), ← nth_eq (d := opZ) h1, ho]; rfl
          have hle : i * 20 + 20 ≤ (arr Op.cl L).length := by rw [arr_length Op.cl_len]; omega
          refine run_sound (Tab.ok_Γ _) 200 _ _ _ _ ?_
          simp (config := { maxSteps := 10000000 }) only [EV1, EV2, EV3, EV4, EV5, EV6, addT, istep, pickR, putD, bin1R, un1R, slcR, bnd, capsOf, fillP, V.plain, V.cells, V.known, C.v, blk, setL, setH, eqS, eq1, cmpS, cmp1, isNil, popTo, killT, setT, leT, V.below, S.below, R.below, V.val, C.val, S.val, R.val, R.takes, vals, shows, unnamed, V.kill, V.names, C.names, S.names, R.names, List.set, List.replicate, ↓q_cond_t, ↓q_cond_f, if_true, if_false, reduceCtorEq, rvals, rvC, result, C.known, V.noL, C.noL, S.noL, R.noL, Option.map, true_and, and_true, ge_iff_le, gt_iff_lt, implies_true, q_ite_t, q_ite_f, beq_iff_eq, bne_iff_ne, q_ne, Nat.reduceAdd, Nat.reducePow, Int.reducePow, Nat.reduceMul, Nat.reduceSub, Nat.reduceLeDiff, Nat.reduceLT, Nat.reduceEqDiff, Int.reduceNeg, Int.reduceLT, Int.reduceLE, Int.reduceEq, Int.reduceNe, Int.reduceAdd, Int.reduceSub, Int.reduceMul, Int.reduceToNat, Int.reduceBEq, Int.reduceBNe, TPy, T8, awake7G, madeG, playG, askG, bothF_eq, playM, askM, alikeG, op_eta, d1, d2, d3, d4, hb1, hdd, hs, g0, hle, hou, Int.toNat_natCast]
          exact IH (i + 1, _) _ (by simp only; omega) (by simp only; omega) (Wk.same rfl rfl (by simp (config := { maxSteps := 10000000 }) only [EV1, EV2, EV3, EV4, EV5, EV6, addT, istep, pickR, putD, bin1R, un1R, slcR, bnd, capsOf, fillP, V.plain, V.cells, V.known, C.v, blk, setL, setH, eqS, eq1, cmpS, cmp1, isNil, popTo, killT, setT, leT, V.below, S.below, R.below, V.val, C.val, S.val, R.val, R.takes, vals, shows, unnamed, V.kill, V.names, C.names, S.names, R.names, List.set, List.replicate, ↓q_cond_t, ↓q_cond_f, if_true, if_false, reduceCtorEq, rvals, rvC, result, C.known, V.noL, C.noL, S.noL, R.noL, Option.map, true_and, and_true, ge_iff_le, gt_iff_lt, implies_true, q_ite_t, q_ite_f, beq_iff_eq, bne_iff_ne, q_ne, Nat.reduceAdd, Nat.reducePow, Int.reducePow, Nat.reduceMul, Nat.reduceSub, Nat.reduceLeDiff, Nat.reduceLT, Nat.reduceEqDiff, Int.reduceNeg, Int.reduceLT, Int.reduceLE, Int.reduceEq, Int.reduceNe, Int.reduceAdd, Int.reduceSub, Int.reduceMul, Int.reduceToNat, Int.reduceBEq, Int.reduceBNe]))
        · have : i = L.length := by omega
          subst this
          clear IH
          refine run_sound (Tab.ok_Γ _) 400 _ _ _ _ ?_
          simp (config := { maxSteps := 10000000 }) only [EV1, EV2, EV3, EV4, EV5, EV6, addT, istep, pickR, putD, bin1R, un1R, slcR, bnd, capsOf, fillP, V.plain, V.cells, V.known, C.v, blk, setL, setH, eqS, eq1, cmpS, cmp1, isNil, popTo, killT, setT, leT, V.below, S.below, R.below, V.val, C.val, S.val, R.val, R.takes, vals, shows, unnamed, V.kill, V.names, C.names, S.names, R.names, List.set, List.replicate, ↓q_cond_t, ↓q_cond_f, if_true, if_false, reduceCtorEq, rvals, rvC, result, C.known, V.noL, C.noL, S.noL, R.noL, Option.map, true_and, and_true, ge_iff_le, gt_iff_lt, implies_true, q_ite_t, q_ite_f, beq_iff_eq, bne_iff_ne, q_ne, Nat.reduceAdd, Nat.reducePow, Int.reducePow, Nat.reduceMul, Nat.reduceSub, Nat.reduceLeDiff, Nat.reduceLT, Nat.reduceEqDiff, Int.reduceNeg, Int.reduceLT, Int.reduceLE, Int.reduceEq, Int.reduceNe, Int.reduceAdd, Int.reduceSub, Int.reduceMul, Int.reduceToNat, Int.reduceBEq, Int.reduceBNe, TPy, T8, awake7G, madeG, playG, askG, bothF_eq, playM, askM, alikeG, op_eta, Int.lt_irrefl, q_cast, Int.natCast_zero]
          rw [holds_loop]
          refine swp_loop fun Y hY => ?_
          refine hY _ ?_
          refine run_sound (Tab.ok_Γ _) 400 _ _ _ _ ?_
          simp (config := { maxSteps := 10000000 }) only [EV1, EV2, EV3, EV4, EV5, EV6, addT, istep, pickR, putD, bin1R, un1R, slcR, bnd, capsOf, fillP, V.plain, V.cells, V.known, C.v, blk, setL, setH, eqS, eq1, cmpS, cmp1, isNil, popTo, killT, setT, leT, V.below, S.below, R.below, V.val, C.val, S.val, R.val, R.takes, vals, shows, unnamed, V.kill, V.names, C.names, S.names, R.names, List.set, List.replicate, ↓q_cond_t, ↓q_cond_f, if_true, if_false, reduceCtorEq, rvals, rvC, result, C.known, V.noL, C.noL, S.noL, R.noL, Option.map, true_and, and_true, ge_iff_le, gt_iff_lt, implies_true, q_ite_t, q_ite_f, beq_iff_eq, bne_iff_ne, q_ne, Nat.reduceAdd, Nat.reducePow, Int.reducePow, Nat.reduceMul, Nat.reduceSub, Nat.reduceLeDiff, Nat.reduceLT, Nat.reduceEqDiff, Int.reduceNeg, Int.reduceLT, Int.reduceLE, Int.reduceEq, Int.reduceNe, Int.reduceAdd, Int.reduceSub, Int.reduceMul, Int.reduceToNat, Int.reduceBEq, Int.reduceBNe, TPy, T8, awake7G, madeG, playG, askG, bothF_eq, playM, askM, alikeG, op_eta, Int.lt_irrefl, q_cast, Int.natCast_zero]
          exact hK _
    · have hb1 := bhl hj1
      by_cases n1 : (2147483647 : Int) < L.length
      · simp (config := { maxSteps := 10000000 }) only [EV1, EV2, EV3, EV4, EV5, EV6, addT, istep, pickR, putD, bin1R, un1R, slcR, bnd, capsOf, fillP, V.plain, V.cells, V.known, C.v, blk, setL, setH, eqS, eq1, cmpS, cmp1, isNil, popTo, killT, setT, leT, V.below, S.below, R.below, V.val, C.val, S.val, R.val, R.takes, vals, shows, unnamed, V.kill, V.names, C.names, S.names, R.names, List.set, List.replicate, ↓q_cond_t, ↓q_cond_f, if_true, if_false, reduceCtorEq, rvals, rvC, result, C.known, V.noL, C.noL, S.noL, R.noL, Option.map, true_and, and_true, ge_iff_le, gt_iff_lt, implies_true, q_ite_t, q_ite_f, beq_iff_eq, bne_iff_ne, q_ne, Nat.reduceAdd, Nat.reducePow, Int.reducePow, Nat.reduceMul, Nat.reduceSub, Nat.reduceLeDiff, Nat.reduceLT, Nat.reduceEqDiff, Int.reduceNeg, Int.reduceLT, Int.reduceLE, Int.reduceEq, Int.reduceNe, Int.reduceAdd, Int.reduceSub, Int.reduceMul, Int.reduceToNat, Int.reduceBEq, Int.reduceBNe, df13, n1]
        exact hK _
      have hb2 := bhl hj2
      by_cases n2 : (2147483647 : Int) < A.length
      · simp (config := { maxSteps := 10000000 }) only [EV1, EV2, EV3, EV4, EV5, EV6, addT, istep, pickR, putD, bin1R, un1R, slcR, bnd, capsOf, fillP, V.plain, V.cells, V.known, C.v, blk, setL, setH, eqS, eq1, cmpS, cmp1, isNil, popTo, killT, setT, leT, V.below, S.below, R.below, V.val, C.val, S.val, R.val, R.takes, vals, shows, unnamed, V.kill, V.names, C.names, S.names, R.names, List.set, List.replicate, ↓q_cond_t, ↓q_cond_f, if_true, if_false, reduceCtorEq, rvals, rvC, result, C.known, V.noL, C.noL, S.noL, R.noL, Option.map, true_and, and_true, ge_iff_le, gt_iff_lt, implies_true, q_ite_t, q_ite_f, beq_iff_eq, bne_iff_ne, q_ne, Nat.reduceAdd, Nat.reducePow, Int.reducePow, Nat.reduceMul, Nat.reduceSub, Nat.reduceLeDiff, Nat.reduceLT, Nat.reduceEqDiff, Int.reduceNeg, Int.reduceLT, Int.reduceLE, Int.reduceEq, Int.reduceNe, Int.reduceAdd, Int.reduceSub, Int.reduceMul, Int.reduceToNat, Int.reduceBEq, Int.reduceBNe, df13, n1, n2]
        exact hK _
      by_cases c1 : b < 11
      · simp (config := { maxSteps := 10000000 }) only [EV1, EV2, EV3, EV4, EV5, EV6, addT, istep, pickR, putD, bin1R, un1R, slcR, bnd, capsOf, fillP, V.plain, V.cells, V.known, C.v, blk, setL, setH, eqS, eq1, cmpS, cmp1, isNil, popTo, killT, setT, leT, V.below, S.below, R.below, V.val, C.val, S.val, R.val, R.takes, vals, shows, unnamed, V.kill, V.names, C.names, S.names, R.names, List.set, List.replicate, ↓q_cond_t, ↓q_cond_f, if_true, if_false, reduceCtorEq, rvals, rvC, result, C.known, V.noL, C.noL, S.noL, R.noL, Option.map, true_and, and_true, ge_iff_le, gt_iff_lt, implies_true, q_ite_t, q_ite_f, beq_iff_eq, bne_iff_ne, q_ne, Nat.reduceAdd, Nat.reducePow, Int.reducePow, Nat.reduceMul, Nat.reduceSub, Nat.reduceLeDiff, Nat.reduceLT, Nat.reduceEqDiff, Int.reduceNeg, Int.reduceLT, Int.reduceLE, Int.reduceEq, Int.reduceNe, Int.reduceAdd, Int.reduceSub, Int.reduceMul, Int.reduceToNat, Int.reduceBEq, Int.reduceBNe, df13, TPy, T8, awake7G, c1, n1, n2]
        exact hK _
      by_cases c2 : 16 < b
      · simp (config := { maxSteps := 10000000 }) only [EV1, EV2, EV3, EV4, EV5, EV6, addT, istep, pickR, putD, bin1R, un1R, slcR, bnd, capsOf, fillP, V.plain, V.cells, V.known, C.v, blk, setL, setH, eqS, eq1, cmpS, cmp1, isNil, popTo, killT, setT, leT, V.below, S.below, R.below, V.val, C.val, S.val, R.val, R.takes, vals, shows, unnamed, V.kill, V.names, C.names, S.names, R.names, List.set, List.replicate, ↓q_cond_t, ↓q_cond_f, if_true, if_false, reduceCtorEq, rvals, rvC, result, C.known, V.noL, C.noL, S.noL, R.noL, Option.map, true_and, and_true, ge_iff_le, gt_iff_lt, implies_true, q_ite_t, q_ite_f, beq_iff_eq, bne_iff_ne, q_ne, Nat.reduceAdd, Nat.reducePow, Int.reducePow, Nat.reduceMul, Nat.reduceSub, Nat.reduceLeDiff, Nat.reduceLT, Nat.reduceEqDiff, Int.reduceNeg, Int.reduceLT, Int.reduceLE, Int.reduceEq, Int.reduceNe, Int.reduceAdd, Int.reduceSub, Int.reduceMul, Int.reduceToNat, Int.reduceBEq, Int.reduceBNe, df13, TPy, T8, awake7G, c1, c2, n1, n2]
        exact hK _
      have c3 : 11 ≤ b := by omega
      have c4 : b ≤ 16 := by omega
      simp (config := { maxSteps := 10000000 }) only [EV1, EV2, EV3, EV4, EV5, EV6, addT, istep, pickR, putD, bin1R, un1R, slcR, bnd, capsOf, fillP, V.plain, V.cells, V.known, C.v, blk, setL, setH, eqS, eq1, cmpS, cmp1, isNil, popTo, killT, setT, leT, V.below, S.below, R.below, V.val, C.val, S.val, R.val, R.takes, vals, shows, unnamed, V.kill, V.names, C.names, S.names, R.names, List.set, List.replicate, ↓q_cond_t, ↓q_cond_f, if_true, if_false, reduceCtorEq, rvals, rvC, result, C.known, V.noL, C.noL, S.noL, R.noL, Option.map, true_and, and_true, ge_iff_le, gt_iff_lt, implies_true, q_ite_t, q_ite_f, beq_iff_eq, bne_iff_ne, q_ne, Nat.reduceAdd, Nat.reducePow, Int.reducePow, Nat.reduceMul, Nat.reduceSub, Nat.reduceLeDiff, Nat.reduceLT, Nat.reduceEqDiff, Int.reduceNeg, Int.reduceLT, Int.reduceLE, Int.reduceEq, Int.reduceNe, Int.reduceAdd, Int.reduceSub, Int.reduceMul, Int.reduceToNat, Int.reduceBEq, Int.reduceBNe, df13, TPy, T8, awake7G, madeG, playG, askG, bothF_eq, playM, askM, alikeG, op_eta, c1, c2, c3, c4, n1, n2]
      refine loop_rule (α := Nat × M) [6, 9, 10, 11, 35, 36, 37, 38, 39, 40, 41, 42, 43, 44, 45, 46, 47, 48, 49, 50, 51, 52, 53, 54, 55, 56, 57, 58, 59] (fun x => [(9, .s (.i .i64 x.1))]) (fun _ => []) (fun x => bothH h x.2) (fun x => x.1 ≤ L.length) (fun x => L.length - x.1) (0, M.zero b.toNat) (by simp only; omega) ?_ ?_
      · refine Wk.same rfl rfl ?_
        simp (config := { maxSteps := 10000000 }) only [EV1, EV2, EV3, EV4, EV5, EV6, addT, istep, pickR, putD, bin1R, un1R, slcR, bnd, capsOf, fillP, V.plain, V.cells, V.known, C.v, blk, setL, setH, eqS, eq1, cmpS, cmp1, isNil, popTo, killT, setT, leT, V.below, S.below, R.below, V.val, C.val, S.val, R.val, R.takes, vals, shows, unnamed, V.kill, V.names, C.names, S.names, R.names, List.set, List.replicate, ↓q_cond_t, ↓q_cond_f, if_true, if_false, reduceCtorEq, rvals, rvC, result, C.known, V.noL, C.noL, S.noL, R.noL, Option.map, true_and, and_true, ge_iff_le, gt_iff_lt, implies_true, q_ite_t, q_ite_f, beq_iff_eq, bne_iff_ne, q_ne, Nat.reduceAdd, Nat.reducePow, Int.reducePow, Nat.reduceMul, Nat.reduceSub, Nat.reduceLeDiff, Nat.reduceLT, Nat.reduceEqDiff, Int.reduceNeg, Int.reduceLT, Int.reduceLE, Int.reduceEq, Int.reduceNe, Int.reduceAdd, Int.reduceSub, Int.reduceMul, Int.reduceToNat, Int.reduceBEq, Int.reduceBNe, q_cast, Int.natCast_zero]
      · rintro X ⟨i, m⟩ hi IH
        simp only at hi IH ⊢
        rcases Nat.lt_or_ge i L.length with h1 | h1
        · obtain ⟨d1, d2, d3, d4⟩ := idx h1 l1
          have hdd := hd1 (by omega)
          obtain ⟨o, ho⟩ : ∃ o, nth opZ L i = o := ⟨_, rfl⟩
          have hou : o.u := by rw [← ho]; exact hu _ (nth_mem h1)
          have hs : sub (arr Op.cl L) (i * 20) 20 = o.cl := by rw [← ho, nth_eq h1]; exact arr_sub Op.cl_len h1
          simp only [Op.cl] at hs
          have g0 : (arr Op.cl L)[i * 20]? = some (.i .i64 o.addr) := by rw [arr_get0 Op.cl_len h1 (by omega), ← nth_eq (d := opZ) h1, ho]; rfl
          have hle : i * 20 + 20 ≤ (arr Op.cl L).length := by rw [arr_length Op.cl_len]; omega
          refine run_sound (Tab.ok_Γ _) 200 _ _ _ _ ?_
          simp (config := { maxSteps := 10000000 }) only [EV1, EV2, EV3, EV4, EV5, EV6, addT, istep, pickR, putD, bin1R, un1R, slcR, bnd, capsOf, fillP, V.plain, V.cells, V.known, C.v, blk, setL, setH, eqS, eq1, cmpS, cmp1, isNil, popTo, killT, setT, leT, V.below, S.below, R.below, V.val, C.val, S.val, R.val, R.takes, vals, shows, unnamed, V.kill, V.names, C.names, S.names, R.names, List.set, List.replicate, ↓q_cond_t, ↓q_cond_f, if_true, if_false, reduceCtorEq, rvals, rvC, result, C.known, V.noL, C.noL, S.noL, R.noL, Option.map, true_and, and_true, ge_iff_le, gt_iff_lt, implies_true, q_ite_t, q_ite_f, beq_iff_eq, bne_iff_ne, q_ne, Nat.reduceAdd, Nat.reducePow, Int.reducePow, Nat.reduceMul, Nat.reduceSub, Nat.reduceLeDiff, Nat.reduceLT, Nat.reduceEqDiff, Int.reduceNeg, Int.reduceLT, Int.reduceLE, Int.reduceEq, Int.reduceNe, Int.reduceAdd, Int.reduceSub, Int.reduceMul, Int.reduceToNat, Int.reduceBEq, Int.reduceBNe, TPy, T8, awake7G, madeG, playG, askG, bothF_eq, playM, askM, alikeG, op_eta, d1, d2, d3, d4, hb1, hdd, hs, g0, hle, hou, Int.toNat_natCast]
          exact IH (i + 1, _) _ (by simp only; omega) (by simp only; omega) (Wk.same rfl rfl (by simp (config := { maxSteps := 10000000 }) only [EV1, EV2, EV3, EV4, EV5, EV6, addT, istep, pickR, putD, bin1R, un1R, slcR, bnd, capsOf, fillP, V.plain, V.cells, V.known, C.v, blk, setL, setH, eqS, eq1, cmpS, cmp1, isNil, popTo, killT, setT, leT, V.below, S.below, R.below, V.val, C.val, S.val, R.val, R.takes, vals, shows, unnamed, V.kill, V.names, C.names, S.names, R.names, List.set, List.replicate, ↓q_cond_t, ↓q_cond_f, if_true, if_false, reduceCtorEq, rvals, rvC, result, C.known, V.noL, C.noL, S.noL, R.noL, Option.map, true_and, and_true, ge_iff_le, gt_iff_lt, implies_true, q_ite_t, q_ite_f, beq_iff_eq, bne_iff_ne, q_ne, Nat.reduceAdd, Nat.reducePow, Int.reducePow, Nat.reduceMul, Nat.reduceSub, Nat.reduceLeDiff, Nat.reduceLT, Nat.reduceEqDiff, Int.reduceNeg, Int.reduceLT, Int.reduceLE, Int.reduceEq, Int.reduceNe, Int.reduceAdd, Int.reduceSub, Int.reduceMul, Int.reduceToNat, Int.reduceBEq, Int.reduceBNe]))
        · have : i = L.length := by omega
          subst this
          clear IH
          refine run_sound (Tab.ok_Γ _) 400 _ _ _ _ ?_
          simp (config := { maxSteps := 10000000 }) only [EV1, EV2, EV3, EV4, EV5, EV6, addT, istep, pickR, putD, bin1R, un1R, slcR, bnd, capsOf, fillP, V.plain, V.cells, V.known, C.v, blk, setL, setH, eqS, eq1, cmpS, cmp1, isNil, popTo, killT, setT, leT, V.below, S.below, R.below, V.val, C.val, S.val, R.val, R.takes, vals, shows, unnamed, V.kill, V.names, C.names, S.names, R.names, List.set, List.replicate, ↓q_cond_t, ↓q_cond_f, if_true, if_false, reduceCtorEq, rvals, rvC, result, C.known, V.noL, C.noL, S.noL, R.noL, Option.map, true_and, and_true, ge_iff_le, gt_iff_lt, implies_true, q_ite_t, q_ite_f, beq_iff_eq, bne_iff_ne, q_ne, Nat.reduceAdd, Nat.reducePow, Int.reducePow, Nat.reduceMul, Nat.reduceSub, Nat.reduceLeDiff, Nat.reduceLT, Nat.reduceEqDiff, Int.reduceNeg, Int.reduceLT, Int.reduceLE, Int.reduceEq, Int.reduceNe, Int.reduceAdd, Int.reduceSub, Int.reduceMul, Int.reduceToNat, Int.reduceBEq, Int.reduceBNe, TPy, T8, awake7G, madeG, playG, askG, bothF_eq, playM, askM, alikeG, op_eta, Int.lt_irrefl, q_cast, Int.natCast_zero]
          refine loop_rule (α := Nat × M) [6, 12, 13, 60, 61, 62, 63, 64, 65, 66, 67, 68, 69, 70, 71, 72, 73] (fun x => [(12, .s (.i .i64 x.1))]) (fun _ => []) (fun x => bothH h x.2) (fun x => x.1 ≤ A.length) (fun x => A.length - x.1) (0, m) (by simp only; omega) ?_ ?_
          · refine Wk.same rfl rfl ?_
            simp (config := { maxSteps := 10000000 }) only [EV1, EV2, EV3, EV4, EV5, EV6, addT, istep, pickR, putD, bin1R, un1R, slcR, bnd, capsOf, fillP, V.plain, V.cells, V.known, C.v, blk, setL, setH, eqS, eq1, cmpS, cmp1, isNil, popTo, killT, setT, leT, V.below, S.below, R.below, V.val, C.val, S.val, R.val, R.takes, vals, shows, unnamed, V.kill, V.names, C.names, S.names, R.names, List.set, List.replicate, ↓q_cond_t, ↓q_cond_f, if_true, if_false, reduceCtorEq, rvals, rvC, result, C.known, V.noL, C.noL, S.noL, R.noL, Option.map, true_and, and_true, ge_iff_le, gt_iff_lt, implies_true, q_ite_t, q_ite_f, beq_iff_eq, bne_iff_ne, q_ne, Nat.reduceAdd, Nat.reducePow, Int.reducePow, Nat.reduceMul, Nat.reduceSub, Nat.reduceLeDiff, Nat.reduceLT, Nat.reduceEqDiff, Int.reduceNeg, Int.reduceLT, Int.reduceLE, Int.reduceEq, Int.reduceNe, Int.reduceAdd, Int.reduceSub, Int.reduceMul, Int.reduceToNat, Int.reduceBEq, Int.reduceBNe, q_cast, Int.natCast_zero]
          · rintro Y ⟨i, m⟩ hi IH
            simp only at hi IH ⊢
            rcases Nat.lt_or_ge i A.length with h1 | h1
            · obtain ⟨d1, d2, d3, d4⟩ := idx h1 l2
              have hdd := hd2 (by omega)
              have g0 : (arr In.c A)[i]? = some (.i .i64 (nth 0 A i)) := by
                have := arr_get0 In.c_len h1 (by omega)
                rw [Nat.mul_one] at this
                rw [this, nth_eq h1]; rfl
              refine run_sound (Tab.ok_Γ _) 200 _ _ _ _ ?_
              simp (config := { maxSteps := 10000000 }) only [EV1, EV2, EV3, EV4, EV5, EV6, addT, istep, pickR, putD, bin1R, un1R, slcR, bnd, capsOf, fillP, V.plain, V.cells, V.known, C.v, blk, setL, setH, eqS, eq1, cmpS, cmp1, isNil, popTo, killT, setT, leT, V.below, S.below, R.below, V.val, C.val, S.val, R.val, R.takes, vals, shows, unnamed, V.kill, V.names, C.names, S.names, R.names, List.set, List.replicate, ↓q_cond_t, ↓q_cond_f, if_true, if_false, reduceCtorEq, rvals, rvC, result, C.known, V.noL, C.noL, S.noL, R.noL, Option.map, true_and, and_true, ge_iff_le, gt_iff_lt, implies_true, q_ite_t, q_ite_f, beq_iff_eq, bne_iff_ne, q_ne, Nat.reduceAdd, Nat.reducePow, Int.reducePow, Nat.reduceMul, Nat.reduceSub, Nat.reduceLeDiff, Nat.reduceLT, Nat.reduceEqDiff, Int.reduceNeg, Int.reduceLT, Int.reduceLE, Int.reduceEq, Int.reduceNe, Int.reduceAdd, Int.reduceSub, Int.reduceMul, Int.reduceToNat, Int.reduceBEq, Int.reduceBNe, TPy, T8, awake7G, madeG, playG, askG, bothF_eq, playM, askM, alikeG, op_eta, d1, d2, d3, d4, hb2, hdd, g0, Int.toNat_natCast]
              exact IH (i + 1, _) _ (by simp only; omega) (by simp only; omega) (Wk.same rfl rfl (by simp (config := { maxSteps := 10000000 }) only [EV1, EV2, EV3, EV4, EV5, EV6, addT, istep, pickR, putD, bin1R, un1R, slcR, bnd, capsOf, fillP, V.plain, V.cells, V.known, C.v, blk, setL, setH, eqS, eq1, cmpS, cmp1, isNil, popTo, killT, setT, leT, V.below, S.below, R.below, V.val, C.val, S.val, R.val, R.takes, vals, shows, unnamed, V.kill, V.names, C.names, S.names, R.names, List.set, List.replicate, ↓q_cond_t, ↓q_cond_f, if_true, if_false, reduceCtorEq, rvals, rvC, result, C.known, V.noL, C.noL, S.noL, R.noL, Option.map, true_and, and_true, ge_iff_le, gt_iff_lt, implies_true, q_ite_t, q_ite_f, beq_iff_eq, bne_iff_ne, q_ne, Nat.reduceAdd, Nat.reducePow, Int.reducePow, Nat.reduceMul, Nat.reduceSub, Nat.reduceLeDiff, Nat.reduceLT, Nat.reduceEqDiff, Int.reduceNeg, Int.reduceLT, Int.reduceLE, Int.reduceEq, Int.reduceNe, Int.reduceAdd, Int.reduceSub, Int.reduceMul, Int.reduceToNat, Int.reduceBEq, Int.reduceBNe]))
            · have : i = A.length := by omega
              subst this
              clear IH
              refine run_sound (Tab.ok_Γ _) 400 _ _ _ _ ?_
              simp (config := { maxSteps := 10000000 }) only [EV1, EV2, EV3, EV4, EV5, EV6, addT, istep, pickR, putD, bin1R, un1R, slcR, bnd, capsOf, fillP, V.plain, V.cells, V.known, C.v, blk, setL, setH, eqS, eq1, cmpS, cmp1, isNil, popTo, killT, setT, leT, V.below, S.below, R.below, V.val, C.val, S.val, R.val, R.takes, vals, shows, unnamed, V.kill, V.names, C.names, S.names, R.names, List.set, List.replicate, ↓q_cond_t, ↓q_cond_f, if_true, if_false, reduceCtorEq, rvals, rvC, result, C.known, V.noL, C.noL, S.noL, R.noL, Option.map, true_and, and_true, ge_iff_le, gt_iff_lt, implies_true, q_ite_t, q_ite_f, beq_iff_eq, bne_iff_ne, q_ne, Nat.reduceAdd, Nat.reducePow, Int.reducePow, Nat.reduceMul, Nat.reduceSub, Nat.reduceLeDiff, Nat.reduceLT, Nat.reduceEqDiff, Int.reduceNeg, Int.reduceLT, Int.reduceLE, Int.reduceEq, Int.reduceNe, Int.reduceAdd, Int.reduceSub, Int.reduceMul, Int.reduceToNat, Int.reduceBEq, Int.reduceBNe, TPy, T8, awake7G, madeG, playG, askG, bothF_eq, playM, askM, alikeG, op_eta, Int.lt_irrefl, q_cast, Int.natCast_zero]
              exact hK _
end Go.Proofs.Ythegocjfnjfkdaa

/- Caps as arguments of a statement. -/
namespace Go.Proofs.Ythegocjfnjfkdaa
open Go.D
set_option linter.all false
set_option maxRecDepth 100000

abbrev CapT : List TY := [.int .i64, .int .i64, .int .i64, .int .i64, .int .i64, .int .i64, .int .i64, .int .i64, .int .i64, .int .i64, .int .i64]
theorem hasTs_cap {h : List Blk} {ts : List TY} {ss : List S} (H : hasTs h (CapT ++ ts) ss) : ∃ (c : Cap) (ss' : List S), ss = c.cl ++ ss' ∧ hasTs h ts ss' := by
  obtain ⟨_, _, rfl, ⟨a, rfl, _⟩, H0⟩ := hasTs_cons H
  obtain ⟨_, _, rfl, ⟨b, rfl, _⟩, H1⟩ := hasTs_cons H0
  obtain ⟨_, _, rfl, ⟨c, rfl, _⟩, H2⟩ := hasTs_cons H1
  obtain ⟨_, _, rfl, ⟨d, rfl, _⟩, H3⟩ := hasTs_cons H2
  obtain ⟨_, _, rfl, ⟨e, rfl, _⟩, H4⟩ := hasTs_cons H3
  obtain ⟨_, _, rfl, ⟨g, rfl, _⟩, H5⟩ := hasTs_cons H4
  obtain ⟨_, _, rfl, ⟨i, rfl, _⟩, H6⟩ := hasTs_cons H5
  obtain ⟨_, _, rfl, ⟨j, rfl, _⟩, H7⟩ := hasTs_cons H6
  obtain ⟨_, _, rfl, ⟨k, rfl, _⟩, H8⟩ := hasTs_cons H7
  obtain ⟨_, _, rfl, ⟨l, rfl, _⟩, H9⟩ := hasTs_cons H8
  obtain ⟨_, _, rfl, ⟨m, rfl, _⟩, H10⟩ := hasTs_cons H9
  exact ⟨⟨a, b, c, d, e, g, i, j, k, l, m⟩, _, rfl, H10⟩
theorem hasV_cap {h : List Blk} {v : V} (H : hasV h (true, CapT) v) : ∃ c : Cap, v = .agg c.cl := by
  obtain ⟨ss, rfl, H1⟩ := H
  obtain ⟨c, ss', rfl, H2⟩ := hasTs_cap (ts := []) H1
  obtain rfl := hasTs_nil H2
  exact ⟨c, by simp⟩
theorem u64_wf {n : Int} (h : (Lit.int .u64 n).wf = true) : u64 n := by
  have e : (decide ((0 : Int) ≤ n) && decide (n ≤ 18446744073709551615)) = true := h
  simp only [Bool.and_eq_true, decide_eq_true_eq] at e
  simp only [u64]; omega

end Go.Proofs.Ythegocjfnjfkdaa

/- SlotsBack, SlotsApart, SlotsPlays: for every input the law's Go function answers true, and its arguments read behind the call as before. No conditions. -/
namespace Go.Proofs.Ythegocjfnjfkdaa
open Go.D
set_option linter.all false
set_option maxRecDepth 100000

abbrev SlotT : List TY := CapT ++ [.int .i64, .int .i64, .int .i64]
abbrev OpT : List TY := .int .i64 :: .bool :: .int .u64 :: .int .u64 :: .int .u64 :: .int .u64 :: SlotT
theorem hasTs_slot {h : List Blk} {ts : List TY} {ss : List S} (H : hasTs h (SlotT ++ ts) ss) : ∃ (s : Slot) (ss' : List S), ss = s.cl ++ ss' ∧ hasTs h ts ss' := by
  rw [SlotT, List.append_assoc] at H
  obtain ⟨c, _, rfl, H1⟩ := hasTs_cap H
  obtain ⟨_, _, rfl, ⟨p, rfl, _⟩, H2⟩ := hasTs_cons H1
  obtain ⟨_, _, rfl, ⟨n, rfl, _⟩, H3⟩ := hasTs_cons H2
  obtain ⟨_, _, rfl, ⟨d, rfl, _⟩, H4⟩ := hasTs_cons H3
  exact ⟨⟨c, p, n, d⟩, _, rfl, H4⟩
theorem hasV_slot {h : List Blk} {v : V} (H : hasV h (true, SlotT) v) : ∃ s : Slot, v = .agg s.cl := by
  obtain ⟨ss, rfl, H1⟩ := H
  obtain ⟨c, ss', rfl, H2⟩ := hasTs_slot (ts := []) H1
  obtain rfl := hasTs_nil H2
  exact ⟨c, by simp⟩
theorem hasTs_op {h : List Blk} {ss : List S} (H : hasTs h OpT ss) : ∃ o : Op, ss = o.cl ∧ o.u := by
  obtain ⟨_, _, rfl, ⟨a, rfl, _⟩, H0⟩ := hasTs_cons H
  obtain ⟨_, _, rfl, ⟨r, rfl⟩, H1⟩ := hasTs_cons H0
  obtain ⟨_, _, rfl, ⟨w0, rfl, u0⟩, H2⟩ := hasTs_cons H1
  obtain ⟨_, _, rfl, ⟨w1, rfl, u1⟩, H3⟩ := hasTs_cons H2
  obtain ⟨_, _, rfl, ⟨w2, rfl, u2⟩, H4⟩ := hasTs_cons H3
  obtain ⟨_, _, rfl, ⟨w3, rfl, u3⟩, H5⟩ := hasTs_cons H4
  obtain ⟨s, _, rfl, H6⟩ := hasTs_slot (ts := []) H5
  obtain rfl := hasTs_nil H6
  exact ⟨⟨a, r, w0, w1, w2, w3, s⟩, by simp [Op.cl, Slot.cl], u64_wf u0, u64_wf u1, u64_wf u2, u64_wf u3⟩

theorem slotsBack_row : RowOk Try.prog 11 Try.f11 Rows.slotsBackSpec [(false, [.int .i64]), (true, SlotT), (true, SlotT)] where
  own := own
  noInit := by kernel_rfl
  isf := Try.func11
  laid := laid
  rowed := rowed
  full := full
  params := by kernel_rfl
  vars := rfl
  ret := ⟨_, rfl, by kernel_rfl⟩
  spec := fun H ds e => by
    match ds, e with
    | [_, _, _], _ => rfl
  tys := ⟨20, by kernel_rfl⟩
theorem slotsApart_row : RowOk Try.prog 12 Try.f12 Rows.slotsApartSpec [(true, .int .i64 :: .int .i64 :: (SlotT ++ SlotT))] where
  own := own
  noInit := by kernel_rfl
  isf := Try.func12
  laid := laid
  rowed := rowed
  full := full
  params := by kernel_rfl
  vars := rfl
  ret := ⟨_, rfl, by kernel_rfl⟩
  spec := fun H ds e => by
    match ds, e with
    | [_], _ => rfl
  tys := ⟨20, by kernel_rfl⟩
theorem slotsPlays_row : RowOk Try.prog 13 Try.f13 Rows.slotsPlaysSpec [(false, [.int .i64]), (false, [.slice OpT]), (false, [.slice [.int .i64]])] where
  own := own
  noInit := by kernel_rfl
  isf := Try.func13
  laid := laid
  rowed := rowed
  full := full
  params := by kernel_rfl
  vars := rfl
  ret := ⟨_, rfl, by kernel_rfl⟩
  spec := fun H ds e => by
    match ds, e with
    | [_, _, _], _ => rfl
  tys := ⟨20, by kernel_rfl⟩

theorem slotsBack_law : Law (FSpec.of slotsBackG) [(false, [.int .i64]), (true, SlotT), (true, SlotT)] := by
  intro h us H hc
  obtain ⟨_, _, _, rfl, H1, H2, H3⟩ := law3 H
  obtain ⟨a, rfl, _⟩ := hasV_int H1
  obtain ⟨s, rfl⟩ := hasV_slot H2
  obtain ⟨t, rfl⟩ := hasV_slot H3
  exact rfl
theorem slotsApart_law : Law (FSpec.of slotsApartG) [(true, .int .i64 :: .int .i64 :: (SlotT ++ SlotT))] := by
  intro h us H hc
  obtain ⟨_, rfl, ss, rfl, H1⟩ := law1 H
  obtain ⟨_, _, rfl, ⟨a, rfl, _⟩, H2⟩ := hasTs_cons H1
  obtain ⟨_, _, rfl, ⟨b, rfl, _⟩, H3⟩ := hasTs_cons H2
  obtain ⟨s, _, rfl, H4⟩ := hasTs_slot H3
  obtain ⟨t, _, rfl, H5⟩ := hasTs_slot (ts := []) H4
  obtain rfl := hasTs_nil H5
  exact rfl
theorem slotsPlays_law : Law slotsPlaysS [(false, [.int .i64]), (false, [.slice OpT]), (false, [.slice [.int .i64]])] := by
  intro h us H hc
  obtain ⟨_, _, _, rfl, H1, H2, H3⟩ := law3 H
  obtain ⟨b, rfl, _⟩ := hasV_int H1
  obtain ⟨s, L, rfl, e1, e2, e3⟩ := hasV_slice (c := Op.cl) (p := Op.u) (fun ss h => hasTs_op h) H2
  obtain ⟨s2, A, rfl, a1, _, a3⟩ := hasV_slice (c := In.c) (p := fun _ => True) (fun ss h => by
    obtain ⟨_, _, rfl, ⟨n, rfl, _⟩, H2⟩ := hasTs_cons h
    obtain rfl := hasTs_nil H2
    exact ⟨n, rfl, trivial⟩) H3
  exact ⟨b, s, s2, L, A, rfl, e1, a1, e2, e3, a3, fun _ => rfl⟩

theorem slotsBack_holds : Rows.SlotsBackSaid :=
  OpenClaim.holds_of_wide 11 Try.f11 rfl rfl rfl rfl rfl rfl rfl ⟨rfl, rfl, rfl, rfl, rfl⟩ rfl rfl rfl rfl rfl (by kernel_rfl) Try.func11 (by kernel_rfl)
    (of_decide_eq_true (by kernel_rfl)) (by unfold Func.isWrapper; first | (rw [if_pos (by decide +kernel)]; kernel_rfl) | (rw [if_neg (by decide +kernel)]; exact ⟨rfl, rfl⟩))
    (fun os started H enc _ => slotsBack_row.lifted (C := Try.checked) slotsBack_snd slotsBack_law started (ChangeSpec.witness6 (enc := enc) (C := Try.checked) false ⟨#[], #[.int .i64 0, .agg #[.int .i64 0, .int .i64 0, .int .i64 0, .int .i64 0, .int .i64 0, .int .i64 0, .int .i64 0, .int .i64 0, .int .i64 0, .int .i64 0, .int .i64 0, .int .i64 0, .int .i64 0, .int .i64 0], .agg #[.int .i64 0, .int .i64 0, .int .i64 0, .int .i64 0, .int .i64 0, .int .i64 0, .int .i64 0, .int .i64 0, .int .i64 0, .int .i64 0, .int .i64 0, .int .i64 0, .int .i64 0, .int .i64 0]], []⟩ 8 (by kernel_rfl) (by kernel_rfl) (by kernel_rfl) (by kernel_rfl)))
theorem slotsApart_holds : Rows.SlotsApartSaid :=
  OpenClaim.holds_of_wide 12 Try.f12 rfl rfl rfl rfl rfl rfl rfl ⟨rfl, rfl, rfl, rfl, rfl⟩ rfl rfl rfl rfl rfl (by kernel_rfl) Try.func12 (by kernel_rfl)
    (of_decide_eq_true (by kernel_rfl)) (by unfold Func.isWrapper; first | (rw [if_pos (by decide +kernel)]; kernel_rfl) | (rw [if_neg (by decide +kernel)]; exact ⟨rfl, rfl⟩))
    (fun os started H enc _ => slotsApart_row.lifted (C := Try.checked) slotsApart_snd slotsApart_law started (ChangeSpec.witness6 (enc := enc) (C := Try.checked) false ⟨#[], #[.agg #[.int .i64 0, .int .i64 0, .int .i64 0, .int .i64 0, .int .i64 0, .int .i64 0, .int .i64 0, .int .i64 0, .int .i64 0, .int .i64 0, .int .i64 0, .int .i64 0, .int .i64 0, .int .i64 0, .int .i64 0, .int .i64 0, .int .i64 0, .int .i64 0, .int .i64 0, .int .i64 0, .int .i64 0, .int .i64 0, .int .i64 0, .int .i64 0, .int .i64 0, .int .i64 0, .int .i64 0, .int .i64 0, .int .i64 0, .int .i64 0]], []⟩ 8 (by kernel_rfl) (by kernel_rfl) (by kernel_rfl) (by kernel_rfl)))
theorem slotsPlays_holds : Rows.SlotsPlaysSaid :=
  OpenClaim.holds_of_wide 13 Try.f13 rfl rfl rfl rfl rfl rfl rfl ⟨rfl, rfl, rfl, rfl, rfl⟩ rfl rfl rfl rfl rfl (by kernel_rfl) Try.func13 (by kernel_rfl)
    (of_decide_eq_true (by kernel_rfl)) (by unfold Func.isWrapper; first | (rw [if_pos (by decide +kernel)]; kernel_rfl) | (rw [if_neg (by decide +kernel)]; exact ⟨rfl, rfl⟩))
    (fun os started H enc _ => slotsPlays_row.lifted (C := Try.checked) slotsPlays_snd slotsPlays_law started (ChangeSpec.witness6 (enc := enc) (C := Try.checked) false ⟨#[], #[.int .i64 0, .slice none 0 0, .slice none 0 0], []⟩ 8 (by kernel_rfl) (by kernel_rfl) (by kernel_rfl) (by kernel_rfl)))
end Go.Proofs.Ythegocjfnjfkdaa

