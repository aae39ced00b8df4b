/- HeapSizes, HeapSlots, HeapNested, HeapOnce: for every input the law's Go function answers true, and its arguments read behind the call as before. No conditions. -/
import Derived.Test.YthegocjfnjfkdaaZ1
import Derived.Test.YthegocjfnjfkdaaZ3
import Derived.Deep.Slices
import Derived.ChangeSame
import Derived.ReadAgain
import Derived.RowKit3
import Derived.OpenShut
import Derived.JoinedCond
import Derived.SizedLaws
import Derived.KernelRfl
import Derived.Test.YthegocjfnjfkdaaRows
/- Package heap: slots, apart, within; the kernel's words. -/
namespace Go.Proofs.Ythegocjfnjfkdaa
open Go.D
set_option linter.all false
set_option maxRecDepth 100000
set_option maxHeartbeats 4000000

/-- How many words a cap's object has. -/
def wN (c : Cap) : Int := if rightB c then szN c else 0
def wordG (args : List V) (h : List Blk) : Res := capF (fun c => .ok (.s (.i .i64 (wN c))) [] h) args
theorem hwords_snd : Snd Try.prog 21 (FSpec.of wordG) := words_snd.weaken fun args h K hc hS => by
  obtain ⟨c, rfl, hR⟩ := capF_spec hS
  show Res.spec K (.br (rightB c) (.ok (.s (.i .i64 (szN c))) [] h) (.ok (.s (.i .i64 0)) [] h))
  simp only [spec_br, spec_ok, wN] at hR ⊢
  exact ⟨fun e => by simpa only [e, if_true] using hR, fun e => by simpa only [e, Bool.false_eq_true, if_false] using hR⟩
theorem rhwords_snd : Snd Try.prog 22 (FSpec.of wordG) := rwords_snd.weaken fun args h K hc hS => by
  obtain ⟨c, rfl, hR⟩ := capF_spec hS
  show Res.spec K (.br (rightB c) (.ok (.s (.i .i64 (szN c))) [] h) (.ok (.s (.i .i64 0)) [] h))
  simp only [spec_br, spec_ok, wN] at hR ⊢
  exact ⟨fun e => by simpa only [e, if_true] using hR, fun e => by simpa only [e, Bool.false_eq_true, if_false] using hR⟩

def apartB (a b : Cap) : Bool := wN a == 0 || (wN b == 0 || (decide (IntKind.i64.wrap (a.obj + wN a) ≤ b.obj) || decide (IntKind.i64.wrap (b.obj + wN b) ≤ a.obj)))
def withinB (a b : Cap) : Bool := decide (0 < wN a) && (decide (0 < wN b) && (decide (b.obj ≤ a.obj) && decide (IntKind.i64.wrap (a.obj + wN a) ≤ IntKind.i64.wrap (b.obj + wN b))))
def TWo : Tab := addT 21 wordG (addT 22 wordG noT)
theorem TWo_snd : TWo.Snd Try.prog := addT_snd ok21 hwords_snd (addT_snd ok22 rhwords_snd (noT_snd _))
def apartG (args : List V) (h : List Blk) : Res := cap2F (fun c d => .ok (.s (.b (apartB c d))) [] h) args
def withinG (args : List V) (h : List Blk) : Res := cap2F (fun c d => .ok (.s (.b (withinB c d))) [] h) args
theorem apart_snd : Snd Try.prog 34 (FSpec.of apartG) := snd_run TWo_snd mixed Try.func34 dc34 100 fun args h K hc hS => by
  obtain ⟨c, d, rfl, hR⟩ := cap2F_spec hS
  clear hS
  simp only [spec_ok, apartB] at hR
  simp only [Cap.cl]
  simp (config := { maxSteps := 10000000 }) only [EV1, EV2, EV3, EV4, EV5, EV6, addT, istep, pickR, putD, bin1R, un1R, slcR, bnd, capsOf, fillP, V.plain, V.cells, V.known, C.v, blk, setL, setH, eqS, eq1, cmpS, cmp1, isNil, popTo, killT, setT, leT, V.below, S.below, R.below, V.val, C.val, S.val, R.val, R.takes, vals, shows, unnamed, V.kill, V.names, C.names, S.names, R.names, List.set, List.replicate, ↓q_cond_t, ↓q_cond_f, if_true, if_false, reduceCtorEq, rvals, rvC, result, C.known, V.noL, C.noL, S.noL, R.noL, Option.map, true_and, and_true, ge_iff_le, gt_iff_lt, implies_true, q_ite_t, q_ite_f, beq_iff_eq, bne_iff_ne, q_ne, Nat.reduceAdd, Nat.reducePow, Int.reducePow, Nat.reduceMul, Nat.reduceSub, Nat.reduceLeDiff, Nat.reduceLT, Nat.reduceEqDiff, Int.reduceNeg, Int.reduceLT, Int.reduceLE, Int.reduceEq, Int.reduceNe, Int.reduceAdd, Int.reduceSub, Int.reduceMul, Int.reduceToNat, Int.reduceBEq, Int.reduceBNe, df34, TWo, wordG, capF, cap_eta, sub, List.take_succ_cons, List.take_zero, List.drop_zero, Bool.or_assoc, Bool.and_assoc]
  exact hR
theorem rapart_snd : Snd Try.prog 35 (FSpec.of apartG) := snd_run TWo_snd mixed Try.func35 dc35 100 fun args h K hc hS => by
  obtain ⟨c, d, rfl, hR⟩ := cap2F_spec hS
  clear hS
  simp only [spec_ok, apartB] at hR
  simp only [Cap.cl]
  simp (config := { maxSteps := 10000000 }) only [EV1, EV2, EV3, EV4, EV5, EV6, addT, istep, pickR, putD, bin1R, un1R, slcR, bnd, capsOf, fillP, V.plain, V.cells, V.known, C.v, blk, setL, setH, eqS, eq1, cmpS, cmp1, isNil, popTo, killT, setT, leT, V.below, S.below, R.below, V.val, C.val, S.val, R.val, R.takes, vals, shows, unnamed, V.kill, V.names, C.names, S.names, R.names, List.set, List.replicate, ↓q_cond_t, ↓q_cond_f, if_true, if_false, reduceCtorEq, rvals, rvC, result, C.known, V.noL, C.noL, S.noL, R.noL, Option.map, true_and, and_true, ge_iff_le, gt_iff_lt, implies_true, q_ite_t, q_ite_f, beq_iff_eq, bne_iff_ne, q_ne, Nat.reduceAdd, Nat.reducePow, Int.reducePow, Nat.reduceMul, Nat.reduceSub, Nat.reduceLeDiff, Nat.reduceLT, Nat.reduceEqDiff, Int.reduceNeg, Int.reduceLT, Int.reduceLE, Int.reduceEq, Int.reduceNe, Int.reduceAdd, Int.reduceSub, Int.reduceMul, Int.reduceToNat, Int.reduceBEq, Int.reduceBNe, df35, TWo, wordG, capF, cap_eta, sub, List.take_succ_cons, List.take_zero, List.drop_zero, Bool.or_assoc, Bool.and_assoc]
  exact hR
theorem within_snd : Snd Try.prog 36 (FSpec.of withinG) := snd_run TWo_snd mixed Try.func36 dc36 100 fun args h K hc hS => by
  obtain ⟨c, d, rfl, hR⟩ := cap2F_spec hS
  clear hS
  simp only [spec_ok, withinB] at hR
  simp only [Cap.cl]
  simp (config := { maxSteps := 10000000 }) only [EV1, EV2, EV3, EV4, EV5, EV6, addT, istep, pickR, putD, bin1R, un1R, slcR, bnd, capsOf, fillP, V.plain, V.cells, V.known, C.v, blk, setL, setH, eqS, eq1, cmpS, cmp1, isNil, popTo, killT, setT, leT, V.below, S.below, R.below, V.val, C.val, S.val, R.val, R.takes, vals, shows, unnamed, V.kill, V.names, C.names, S.names, R.names, List.set, List.replicate, ↓q_cond_t, ↓q_cond_f, if_true, if_false, reduceCtorEq, rvals, rvC, result, C.known, V.noL, C.noL, S.noL, R.noL, Option.map, true_and, and_true, ge_iff_le, gt_iff_lt, implies_true, q_ite_t, q_ite_f, beq_iff_eq, bne_iff_ne, q_ne, Nat.reduceAdd, Nat.reducePow, Int.reducePow, Nat.reduceMul, Nat.reduceSub, Nat.reduceLeDiff, Nat.reduceLT, Nat.reduceEqDiff, Int.reduceNeg, Int.reduceLT, Int.reduceLE, Int.reduceEq, Int.reduceNe, Int.reduceAdd, Int.reduceSub, Int.reduceMul, Int.reduceToNat, Int.reduceBEq, Int.reduceBNe, df36, TWo, wordG, capF, cap_eta, sub, List.take_succ_cons, List.take_zero, List.drop_zero, Bool.or_assoc, Bool.and_assoc]
  exact hR
theorem rwithin_snd : Snd Try.prog 37 (FSpec.of withinG) := snd_run TWo_snd mixed Try.func37 dc37 100 fun args h K hc hS => by
  obtain ⟨c, d, rfl, hR⟩ := cap2F_spec hS
  clear hS
  simp only [spec_ok, withinB] at hR
  simp only [Cap.cl]
  simp (config := { maxSteps := 10000000 }) only [EV1, EV2, EV3, EV4, EV5, EV6, addT, istep, pickR, putD, bin1R, un1R, slcR, bnd, capsOf, fillP, V.plain, V.cells, V.known, C.v, blk, setL, setH, eqS, eq1, cmpS, cmp1, isNil, popTo, killT, setT, leT, V.below, S.below, R.below, V.val, C.val, S.val, R.val, R.takes, vals, shows, unnamed, V.kill, V.names, C.names, S.names, R.names, List.set, List.replicate, ↓q_cond_t, ↓q_cond_f, if_true, if_false, reduceCtorEq, rvals, rvC, result, C.known, V.noL, C.noL, S.noL, R.noL, Option.map, true_and, and_true, ge_iff_le, gt_iff_lt, implies_true, q_ite_t, q_ite_f, beq_iff_eq, bne_iff_ne, q_ne, Nat.reduceAdd, Nat.reducePow, Int.reducePow, Nat.reduceMul, Nat.reduceSub, Nat.reduceLeDiff, Nat.reduceLT, Nat.reduceEqDiff, Int.reduceNeg, Int.reduceLT, Int.reduceLE, Int.reduceEq, Int.reduceNe, Int.reduceAdd, Int.reduceSub, Int.reduceMul, Int.reduceToNat, Int.reduceBEq, Int.reduceBNe, df37, TWo, wordG, capF, cap_eta, sub, List.take_succ_cons, List.take_zero, List.drop_zero, Bool.or_assoc, Bool.and_assoc]
  exact hR

/-- How many slots a cap's object has. -/
def slotsN (c : Cap) : Int :=
  if rightB c then (if c.ty = 3 then 3 else if c.ty = 10 then (if c.bits = 31 then 3 else IntKind.i64.wrap (1 * 2 ^ min c.bits.toNat IntKind.i64.bits)) else if c.ty = 2 then IntKind.i64.wrap (1 * 2 ^ min c.bits.toNat IntKind.i64.bits) else 0) else 0
def slotAtV (c : Cap) (i : Int) : Int := if 0 ≤ i ∧ i < slotsN c then IntKind.i64.wrap (c.obj + IntKind.i64.wrap (4 * i)) else 0
def capIF (f : Cap → Int → Res) : List V → Res
  | [x, .s (.i .i64 k)] => capF (fun c => f c k) [x]
  | _ => .bad
theorem capIF_spec {f : Cap → Int → Res} {args : List V} {K : V → List Blk → Prop} (h : (capIF f args).spec K) : ∃ (c : Cap) (k : Int), args = [.agg c.cl, .s (.i .i64 k)] ∧ (f c k).spec K := by
  unfold capIF at h
  split at h
  · obtain ⟨c, e, h⟩ := capF_spec h
    simp only [List.cons.injEq, and_true] at e
    subst e
    exact ⟨c, _, rfl, h⟩
  · exact h.elim
def slotAtG (args : List V) (h : List Blk) : Res := capIF (fun c i => .ok (.s (.i .i64 (slotAtV c i))) [] h) args
def TSl : Tab := addT 15 rightG (addT 65 placeG noT)
theorem TSl_snd : TSl.Snd Try.prog := addT_snd ok15 right_snd (addT_snd ok65 place_snd (noT_snd _))
theorem kinds3 (t : Int) : t = 3 ∨ t = 10 ∨ t = 2 ∨ (¬ t = 3 ∧ ¬ t = 10 ∧ ¬ t = 2) := by omega
theorem slotAt_snd : Snd Try.prog 32 (FSpec.of slotAtG) := snd_run TSl_snd mixed Try.func32 dc32 200 fun args h K hc hS => by
  obtain ⟨c, i, rfl, hR⟩ := capIF_spec hS
  clear hS
  simp only [spec_ok, slotAtV] at hR
  cases hr : rightB c with
  | false =>
    have e : slotsN c = 0 := by simp [slotsN, hr]
    rw [e, if_neg (by omega)] at hR
    have c1 : 0 ≤ i → ¬ (i < 0) := by omega
    simp only [Cap.cl]
    by_cases c2 : 0 ≤ i
    · have c3 := c1 c2
      simp (config := { maxSteps := 10000000 }) only [EV1, EV2, EV3, EV4, EV5, EV6, addT, istep, pickR, putD, bin1R, un1R, slcR, bnd, capsOf, fillP, V.plain, V.cells, V.known, C.v, blk, setL, setH, eqS, eq1, cmpS, cmp1, isNil, popTo, killT, setT, leT, V.below, S.below, R.below, V.val, C.val, S.val, R.val, R.takes, vals, shows, unnamed, V.kill, V.names, C.names, S.names, R.names, List.set, List.replicate, ↓q_cond_t, ↓q_cond_f, if_true, if_false, reduceCtorEq, rvals, rvC, result, C.known, V.noL, C.noL, S.noL, R.noL, Option.map, true_and, and_true, ge_iff_le, gt_iff_lt, implies_true, q_ite_t, q_ite_f, beq_iff_eq, bne_iff_ne, q_ne, Nat.reduceAdd, Nat.reducePow, Int.reducePow, Nat.reduceMul, Nat.reduceSub, Nat.reduceLeDiff, Nat.reduceLT, Nat.reduceEqDiff, Int.reduceNeg, Int.reduceLT, Int.reduceLE, Int.reduceEq, Int.reduceNe, Int.reduceAdd, Int.reduceSub, Int.reduceMul, Int.reduceToNat, Int.reduceBEq, Int.reduceBNe, df32, TSl, rightG, placeG, capF, cap_eta, hr, sub, List.take_succ_cons, List.take_zero, List.drop_zero, c2, c3, put]
      exact hR
    · simp (config := { maxSteps := 10000000 }) only [EV1, EV2, EV3, EV4, EV5, EV6, addT, istep, pickR, putD, bin1R, un1R, slcR, bnd, capsOf, fillP, V.plain, V.cells, V.known, C.v, blk, setL, setH, eqS, eq1, cmpS, cmp1, isNil, popTo, killT, setT, leT, V.below, S.below, R.below, V.val, C.val, S.val, R.val, R.takes, vals, shows, unnamed, V.kill, V.names, C.names, S.names, R.names, List.set, List.replicate, ↓q_cond_t, ↓q_cond_f, if_true, if_false, reduceCtorEq, rvals, rvC, result, C.known, V.noL, C.noL, S.noL, R.noL, Option.map, true_and, and_true, ge_iff_le, gt_iff_lt, implies_true, q_ite_t, q_ite_f, beq_iff_eq, bne_iff_ne, q_ne, Nat.reduceAdd, Nat.reducePow, Int.reducePow, Nat.reduceMul, Nat.reduceSub, Nat.reduceLeDiff, Nat.reduceLT, Nat.reduceEqDiff, Int.reduceNeg, Int.reduceLT, Int.reduceLE, Int.reduceEq, Int.reduceNe, Int.reduceAdd, Int.reduceSub, Int.reduceMul, Int.reduceToNat, Int.reduceBEq, Int.reduceBNe, df32, TSl, rightG, placeG, capF, cap_eta, hr, sub, List.take_succ_cons, List.take_zero, List.drop_zero, c2, put]
      exact hR
  | true =>
    have hb := right_bounds hr
    have hb3 := hb.bits.1
    by_cases c2 : 0 ≤ i
    · by_cases c3 : i < slotsN c
      · rw [if_pos ⟨c2, c3⟩] at hR
        obtain ⟨t, o, b, d, e, g, i', j, k, l, m⟩ := c
        simp only [slotsN, hr, if_true] at c3 hR hb3
        simp only [Cap.cl]
        rcases kinds3 t with rfl | rfl | rfl | ⟨k1, k2, k3⟩
        · simp only [Int.reduceEq, if_true, if_false] at c3
          simp (config := { maxSteps := 10000000 }) only [EV1, EV2, EV3, EV4, EV5, EV6, addT, istep, pickR, putD, bin1R, un1R, slcR, bnd, capsOf, fillP, V.plain, V.cells, V.known, C.v, blk, setL, setH, eqS, eq1, cmpS, cmp1, isNil, popTo, killT, setT, leT, V.below, S.below, R.below, V.val, C.val, S.val, R.val, R.takes, vals, shows, unnamed, V.kill, V.names, C.names, S.names, R.names, List.set, List.replicate, ↓q_cond_t, ↓q_cond_f, if_true, if_false, reduceCtorEq, rvals, rvC, result, C.known, V.noL, C.noL, S.noL, R.noL, Option.map, true_and, and_true, ge_iff_le, gt_iff_lt, implies_true, q_ite_t, q_ite_f, beq_iff_eq, bne_iff_ne, q_ne, Nat.reduceAdd, Nat.reducePow, Int.reducePow, Nat.reduceMul, Nat.reduceSub, Nat.reduceLeDiff, Nat.reduceLT, Nat.reduceEqDiff, Int.reduceNeg, Int.reduceLT, Int.reduceLE, Int.reduceEq, Int.reduceNe, Int.reduceAdd, Int.reduceSub, Int.reduceMul, Int.reduceToNat, Int.reduceBEq, Int.reduceBNe, df32, TSl, rightG, placeG, capF, cap_eta, hr, sub, List.take_succ_cons, List.take_zero, List.drop_zero, c2, c3, put]
          exact hR
        · by_cases k4 : b = 31
          · subst k4
            simp only [Int.reduceEq, if_true, if_false] at c3
            simp (config := { maxSteps := 10000000 }) only [EV1, EV2, EV3, EV4, EV5, EV6, addT, istep, pickR, putD, bin1R, un1R, slcR, bnd, capsOf, fillP, V.plain, V.cells, V.known, C.v, blk, setL, setH, eqS, eq1, cmpS, cmp1, isNil, popTo, killT, setT, leT, V.below, S.below, R.below, V.val, C.val, S.val, R.val, R.takes, vals, shows, unnamed, V.kill, V.names, C.names, S.names, R.names, List.set, List.replicate, ↓q_cond_t, ↓q_cond_f, if_true, if_false, reduceCtorEq, rvals, rvC, result, C.known, V.noL, C.noL, S.noL, R.noL, Option.map, true_and, and_true, ge_iff_le, gt_iff_lt, implies_true, q_ite_t, q_ite_f, beq_iff_eq, bne_iff_ne, q_ne, Nat.reduceAdd, Nat.reducePow, Int.reducePow, Nat.reduceMul, Nat.reduceSub, Nat.reduceLeDiff, Nat.reduceLT, Nat.reduceEqDiff, Int.reduceNeg, Int.reduceLT, Int.reduceLE, Int.reduceEq, Int.reduceNe, Int.reduceAdd, Int.reduceSub, Int.reduceMul, Int.reduceToNat, Int.reduceBEq, Int.reduceBNe, df32, TSl, rightG, placeG, capF, cap_eta, hr, sub, List.take_succ_cons, List.take_zero, List.drop_zero, c2, c3, put]
            exact hR
          · simp only [Int.reduceEq, k4, if_true, if_false] at c3
            simp (config := { maxSteps := 10000000 }) only [EV1, EV2, EV3, EV4, EV5, EV6, addT, istep, pickR, putD, bin1R, un1R, slcR, bnd, capsOf, fillP, V.plain, V.cells, V.known, C.v, blk, setL, setH, eqS, eq1, cmpS, cmp1, isNil, popTo, killT, setT, leT, V.below, S.below, R.below, V.val, C.val, S.val, R.val, R.takes, vals, shows, unnamed, V.kill, V.names, C.names, S.names, R.names, List.set, List.replicate, ↓q_cond_t, ↓q_cond_f, if_true, if_false, reduceCtorEq, rvals, rvC, result, C.known, V.noL, C.noL, S.noL, R.noL, Option.map, true_and, and_true, ge_iff_le, gt_iff_lt, implies_true, q_ite_t, q_ite_f, beq_iff_eq, bne_iff_ne, q_ne, Nat.reduceAdd, Nat.reducePow, Int.reducePow, Nat.reduceMul, Nat.reduceSub, Nat.reduceLeDiff, Nat.reduceLT, Nat.reduceEqDiff, Int.reduceNeg, Int.reduceLT, Int.reduceLE, Int.reduceEq, Int.reduceNe, Int.reduceAdd, Int.reduceSub, Int.reduceMul, Int.reduceToNat, Int.reduceBEq, Int.reduceBNe, df32, TSl, rightG, placeG, capF, cap_eta, hr, sub, List.take_succ_cons, List.take_zero, List.drop_zero, c2, k4, c3, hb3, put]
            exact hR
        · simp only [Int.reduceEq, if_true, if_false] at c3
          simp (config := { maxSteps := 10000000 }) only [EV1, EV2, EV3, EV4, EV5, EV6, addT, istep, pickR, putD, bin1R, un1R, slcR, bnd, capsOf, fillP, V.plain, V.cells, V.known, C.v, blk, setL, setH, eqS, eq1, cmpS, cmp1, isNil, popTo, killT, setT, leT, V.below, S.below, R.below, V.val, C.val, S.val, R.val, R.takes, vals, shows, unnamed, V.kill, V.names, C.names, S.names, R.names, List.set, List.replicate, ↓q_cond_t, ↓q_cond_f, if_true, if_false, reduceCtorEq, rvals, rvC, result, C.known, V.noL, C.noL, S.noL, R.noL, Option.map, true_and, and_true, ge_iff_le, gt_iff_lt, implies_true, q_ite_t, q_ite_f, beq_iff_eq, bne_iff_ne, q_ne, Nat.reduceAdd, Nat.reducePow, Int.reducePow, Nat.reduceMul, Nat.reduceSub, Nat.reduceLeDiff, Nat.reduceLT, Nat.reduceEqDiff, Int.reduceNeg, Int.reduceLT, Int.reduceLE, Int.reduceEq, Int.reduceNe, Int.reduceAdd, Int.reduceSub, Int.reduceMul, Int.reduceToNat, Int.reduceBEq, Int.reduceBNe, df32, TSl, rightG, placeG, capF, cap_eta, hr, sub, List.take_succ_cons, List.take_zero, List.drop_zero, c2, c3, hb3, put]
          exact hR
        · simp only [k1, k2, k3, if_false] at c3
          omega
      · rw [if_neg (by omega)] at hR
        obtain ⟨t, o, b, d, e, g, i', j, k, l, m⟩ := c
        simp only [slotsN, hr, if_true] at c3 hb3
        simp only [Cap.cl]
        rcases kinds3 t with rfl | rfl | rfl | ⟨k1, k2, k3⟩
        · simp only [Int.reduceEq, if_true, if_false] at c3
          simp (config := { maxSteps := 10000000 }) only [EV1, EV2, EV3, EV4, EV5, EV6, addT, istep, pickR, putD, bin1R, un1R, slcR, bnd, capsOf, fillP, V.plain, V.cells, V.known, C.v, blk, setL, setH, eqS, eq1, cmpS, cmp1, isNil, popTo, killT, setT, leT, V.below, S.below, R.below, V.val, C.val, S.val, R.val, R.takes, vals, shows, unnamed, V.kill, V.names, C.names, S.names, R.names, List.set, List.replicate, ↓q_cond_t, ↓q_cond_f, if_true, if_false, reduceCtorEq, rvals, rvC, result, C.known, V.noL, C.noL, S.noL, R.noL, Option.map, true_and, and_true, ge_iff_le, gt_iff_lt, implies_true, q_ite_t, q_ite_f, beq_iff_eq, bne_iff_ne, q_ne, Nat.reduceAdd, Nat.reducePow, Int.reducePow, Nat.reduceMul, Nat.reduceSub, Nat.reduceLeDiff, Nat.reduceLT, Nat.reduceEqDiff, Int.reduceNeg, Int.reduceLT, Int.reduceLE, Int.reduceEq, Int.reduceNe, Int.reduceAdd, Int.reduceSub, Int.reduceMul, Int.reduceToNat, Int.reduceBEq, Int.reduceBNe, df32, TSl, rightG, placeG, capF, cap_eta, hr, sub, List.take_succ_cons, List.take_zero, List.drop_zero, c2, c3, put]
          exact hR
        · by_cases k4 : b = 31
          · subst k4
            simp only [Int.reduceEq, if_true, if_false] at c3
            simp (config := { maxSteps := 10000000 }) only [EV1, EV2, EV3, EV4, EV5, EV6, addT, istep, pickR, putD, bin1R, un1R, slcR, bnd, capsOf, fillP, V.plain, V.cells, V.known, C.v, blk, setL, setH, eqS, eq1, cmpS, cmp1, isNil, popTo, killT, setT, leT, V.below, S.below, R.below, V.val, C.val, S.val, R.val, R.takes, vals, shows, unnamed, V.kill, V.names, C.names, S.names, R.names, List.set, List.replicate, ↓q_cond_t, ↓q_cond_f, if_true, if_false, reduceCtorEq, rvals, rvC, result, C.known, V.noL, C.noL, S.noL, R.noL, Option.map, true_and, and_true, ge_iff_le, gt_iff_lt, implies_true, q_ite_t, q_ite_f, beq_iff_eq, bne_iff_ne, q_ne, Nat.reduceAdd, Nat.reducePow, Int.reducePow, Nat.reduceMul, Nat.reduceSub, Nat.reduceLeDiff, Nat.reduceLT, Nat.reduceEqDiff, Int.reduceNeg, Int.reduceLT, Int.reduceLE, Int.reduceEq, Int.reduceNe, Int.reduceAdd, Int.reduceSub, Int.reduceMul, Int.reduceToNat, Int.reduceBEq, Int.reduceBNe, df32, TSl, rightG, placeG, capF, cap_eta, hr, sub, List.take_succ_cons, List.take_zero, List.drop_zero, c2, c3, put]
            exact hR
          · simp only [Int.reduceEq, k4, if_true, if_false] at c3
            simp (config := { maxSteps := 10000000 }) only [EV1, EV2, EV3, EV4, EV5, EV6, addT, istep, pickR, putD, bin1R, un1R, slcR, bnd, capsOf, fillP, V.plain, V.cells, V.known, C.v, blk, setL, setH, eqS, eq1, cmpS, cmp1, isNil, popTo, killT, setT, leT, V.below, S.below, R.below, V.val, C.val, S.val, R.val, R.takes, vals, shows, unnamed, V.kill, V.names, C.names, S.names, R.names, List.set, List.replicate, ↓q_cond_t, ↓q_cond_f, if_true, if_false, reduceCtorEq, rvals, rvC, result, C.known, V.noL, C.noL, S.noL, R.noL, Option.map, true_and, and_true, ge_iff_le, gt_iff_lt, implies_true, q_ite_t, q_ite_f, beq_iff_eq, bne_iff_ne, q_ne, Nat.reduceAdd, Nat.reducePow, Int.reducePow, Nat.reduceMul, Nat.reduceSub, Nat.reduceLeDiff, Nat.reduceLT, Nat.reduceEqDiff, Int.reduceNeg, Int.reduceLT, Int.reduceLE, Int.reduceEq, Int.reduceNe, Int.reduceAdd, Int.reduceSub, Int.reduceMul, Int.reduceToNat, Int.reduceBEq, Int.reduceBNe, df32, TSl, rightG, placeG, capF, cap_eta, hr, sub, List.take_succ_cons, List.take_zero, List.drop_zero, c2, k4, c3, hb3, put]
            exact hR
        · simp only [Int.reduceEq, if_true, if_false] at c3
          simp (config := { maxSteps := 10000000 }) only [EV1, EV2, EV3, EV4, EV5, EV6, addT, istep, pickR, putD, bin1R, un1R, slcR, bnd, capsOf, fillP, V.plain, V.cells, V.known, C.v, blk, setL, setH, eqS, eq1, cmpS, cmp1, isNil, popTo, killT, setT, leT, V.below, S.below, R.below, V.val, C.val, S.val, R.val, R.takes, vals, shows, unnamed, V.kill, V.names, C.names, S.names, R.names, List.set, List.replicate, ↓q_cond_t, ↓q_cond_f, if_true, if_false, reduceCtorEq, rvals, rvC, result, C.known, V.noL, C.noL, S.noL, R.noL, Option.map, true_and, and_true, ge_iff_le, gt_iff_lt, implies_true, q_ite_t, q_ite_f, beq_iff_eq, bne_iff_ne, q_ne, Nat.reduceAdd, Nat.reducePow, Int.reducePow, Nat.reduceMul, Nat.reduceSub, Nat.reduceLeDiff, Nat.reduceLT, Nat.reduceEqDiff, Int.reduceNeg, Int.reduceLT, Int.reduceLE, Int.reduceEq, Int.reduceNe, Int.reduceAdd, Int.reduceSub, Int.reduceMul, Int.reduceToNat, Int.reduceBEq, Int.reduceBNe, df32, TSl, rightG, placeG, capF, cap_eta, hr, sub, List.take_succ_cons, List.take_zero, List.drop_zero, c2, c3, hb3, put]
          exact hR
        · simp only [k1, k2, k3, if_false] at c3
          simp (config := { maxSteps := 10000000 }) only [EV1, EV2, EV3, EV4, EV5, EV6, addT, istep, pickR, putD, bin1R, un1R, slcR, bnd, capsOf, fillP, V.plain, V.cells, V.known, C.v, blk, setL, setH, eqS, eq1, cmpS, cmp1, isNil, popTo, killT, setT, leT, V.below, S.below, R.below, V.val, C.val, S.val, R.val, R.takes, vals, shows, unnamed, V.kill, V.names, C.names, S.names, R.names, List.set, List.replicate, ↓q_cond_t, ↓q_cond_f, if_true, if_false, reduceCtorEq, rvals, rvC, result, C.known, V.noL, C.noL, S.noL, R.noL, Option.map, true_and, and_true, ge_iff_le, gt_iff_lt, implies_true, q_ite_t, q_ite_f, beq_iff_eq, bne_iff_ne, q_ne, Nat.reduceAdd, Nat.reducePow, Int.reducePow, Nat.reduceMul, Nat.reduceSub, Nat.reduceLeDiff, Nat.reduceLT, Nat.reduceEqDiff, Int.reduceNeg, Int.reduceLT, Int.reduceLE, Int.reduceEq, Int.reduceNe, Int.reduceAdd, Int.reduceSub, Int.reduceMul, Int.reduceToNat, Int.reduceBEq, Int.reduceBNe, df32, TSl, rightG, placeG, capF, cap_eta, hr, sub, List.take_succ_cons, List.take_zero, List.drop_zero, c2, c3, k1, k2, k3, put]
          exact hR
    · rw [if_neg (by omega)] at hR
      obtain ⟨t, o, b, d, e, g, i', j, k, l, m⟩ := c
      simp only at hb3
      simp only [Cap.cl]
      rcases kinds3 t with rfl | rfl | rfl | ⟨k1, k2, k3⟩
      · simp (config := { maxSteps := 10000000 }) only [EV1, EV2, EV3, EV4, EV5, EV6, addT, istep, pickR, putD, bin1R, un1R, slcR, bnd, capsOf, fillP, V.plain, V.cells, V.known, C.v, blk, setL, setH, eqS, eq1, cmpS, cmp1, isNil, popTo, killT, setT, leT, V.below, S.below, R.below, V.val, C.val, S.val, R.val, R.takes, vals, shows, unnamed, V.kill, V.names, C.names, S.names, R.names, List.set, List.replicate, ↓q_cond_t, ↓q_cond_f, if_true, if_false, reduceCtorEq, rvals, rvC, result, C.known, V.noL, C.noL, S.noL, R.noL, Option.map, true_and, and_true, ge_iff_le, gt_iff_lt, implies_true, q_ite_t, q_ite_f, beq_iff_eq, bne_iff_ne, q_ne, Nat.reduceAdd, Nat.reducePow, Int.reducePow, Nat.reduceMul, Nat.reduceSub, Nat.reduceLeDiff, Nat.reduceLT, Nat.reduceEqDiff, Int.reduceNeg, Int.reduceLT, Int.reduceLE, Int.reduceEq, Int.reduceNe, Int.reduceAdd, Int.reduceSub, Int.reduceMul, Int.reduceToNat, Int.reduceBEq, Int.reduceBNe, df32, TSl, rightG, placeG, capF, cap_eta, hr, sub, List.take_succ_cons, List.take_zero, List.drop_zero, c2, put]
        exact hR
      · by_cases k4 : b = 31
        · subst k4
          simp (config := { maxSteps := 10000000 }) only [EV1, EV2, EV3, EV4, EV5, EV6, addT, istep, pickR, putD, bin1R, un1R, slcR, bnd, capsOf, fillP, V.plain, V.cells, V.known, C.v, blk, setL, setH, eqS, eq1, cmpS, cmp1, isNil, popTo, killT, setT, leT, V.below, S.below, R.below, V.val, C.val, S.val, R.val, R.takes, vals, shows, unnamed, V.kill, V.names, C.names, S.names, R.names, List.set, List.replicate, ↓q_cond_t, ↓q_cond_f, if_true, if_false, reduceCtorEq, rvals, rvC, result, C.known, V.noL, C.noL, S.noL, R.noL, Option.map, true_and, and_true, ge_iff_le, gt_iff_lt, implies_true, q_ite_t, q_ite_f, beq_iff_eq, bne_iff_ne, q_ne, Nat.reduceAdd, Nat.reducePow, Int.reducePow, Nat.reduceMul, Nat.reduceSub, Nat.reduceLeDiff, Nat.reduceLT, Nat.reduceEqDiff, Int.reduceNeg, Int.reduceLT, Int.reduceLE, Int.reduceEq, Int.reduceNe, Int.reduceAdd, Int.reduceSub, Int.reduceMul, Int.reduceToNat, Int.reduceBEq, Int.reduceBNe, df32, TSl, rightG, placeG, capF, cap_eta, hr, sub, List.take_succ_cons, List.take_zero, List.drop_zero, c2, put]
          exact hR
        · simp (config := { maxSteps := 10000000 }) only [EV1, EV2, EV3, EV4, EV5, EV6, addT, istep, pickR, putD, bin1R, un1R, slcR, bnd, capsOf, fillP, V.plain, V.cells, V.known, C.v, blk, setL, setH, eqS, eq1, cmpS, cmp1, isNil, popTo, killT, setT, leT, V.below, S.below, R.below, V.val, C.val, S.val, R.val, R.takes, vals, shows, unnamed, V.kill, V.names, C.names, S.names, R.names, List.set, List.replicate, ↓q_cond_t, ↓q_cond_f, if_true, if_false, reduceCtorEq, rvals, rvC, result, C.known, V.noL, C.noL, S.noL, R.noL, Option.map, true_and, and_true, ge_iff_le, gt_iff_lt, implies_true, q_ite_t, q_ite_f, beq_iff_eq, bne_iff_ne, q_ne, Nat.reduceAdd, Nat.reducePow, Int.reducePow, Nat.reduceMul, Nat.reduceSub, Nat.reduceLeDiff, Nat.reduceLT, Nat.reduceEqDiff, Int.reduceNeg, Int.reduceLT, Int.reduceLE, Int.reduceEq, Int.reduceNe, Int.reduceAdd, Int.reduceSub, Int.reduceMul, Int.reduceToNat, Int.reduceBEq, Int.reduceBNe, df32, TSl, rightG, placeG, capF, cap_eta, hr, sub, List.take_succ_cons, List.take_zero, List.drop_zero, c2, k4, hb3, put]
          exact hR
      · simp (config := { maxSteps := 10000000 }) only [EV1, EV2, EV3, EV4, EV5, EV6, addT, istep, pickR, putD, bin1R, un1R, slcR, bnd, capsOf, fillP, V.plain, V.cells, V.known, C.v, blk, setL, setH, eqS, eq1, cmpS, cmp1, isNil, popTo, killT, setT, leT, V.below, S.below, R.below, V.val, C.val, S.val, R.val, R.takes, vals, shows, unnamed, V.kill, V.names, C.names, S.names, R.names, List.set, List.replicate, ↓q_cond_t, ↓q_cond_f, if_true, if_false, reduceCtorEq, rvals, rvC, result, C.known, V.noL, C.noL, S.noL, R.noL, Option.map, true_and, and_true, ge_iff_le, gt_iff_lt, implies_true, q_ite_t, q_ite_f, beq_iff_eq, bne_iff_ne, q_ne, Nat.reduceAdd, Nat.reducePow, Int.reducePow, Nat.reduceMul, Nat.reduceSub, Nat.reduceLeDiff, Nat.reduceLT, Nat.reduceEqDiff, Int.reduceNeg, Int.reduceLT, Int.reduceLE, Int.reduceEq, Int.reduceNe, Int.reduceAdd, Int.reduceSub, Int.reduceMul, Int.reduceToNat, Int.reduceBEq, Int.reduceBNe, df32, TSl, rightG, placeG, capF, cap_eta, hr, sub, List.take_succ_cons, List.take_zero, List.drop_zero, c2, hb3, put]
        exact hR
      · simp (config := { maxSteps := 10000000 }) only [EV1, EV2, EV3, EV4, EV5, EV6, addT, istep, pickR, putD, bin1R, un1R, slcR, bnd, capsOf, fillP, V.plain, V.cells, V.known, C.v, blk, setL, setH, eqS, eq1, cmpS, cmp1, isNil, popTo, killT, setT, leT, V.below, S.below, R.below, V.val, C.val, S.val, R.val, R.takes, vals, shows, unnamed, V.kill, V.names, C.names, S.names, R.names, List.set, List.replicate, ↓q_cond_t, ↓q_cond_f, if_true, if_false, reduceCtorEq, rvals, rvC, result, C.known, V.noL, C.noL, S.noL, R.noL, Option.map, true_and, and_true, ge_iff_le, gt_iff_lt, implies_true, q_ite_t, q_ite_f, beq_iff_eq, bne_iff_ne, q_ne, Nat.reduceAdd, Nat.reducePow, Int.reducePow, Nat.reduceMul, Nat.reduceSub, Nat.reduceLeDiff, Nat.reduceLT, Nat.reduceEqDiff, Int.reduceNeg, Int.reduceLT, Int.reduceLE, Int.reduceEq, Int.reduceNe, Int.reduceAdd, Int.reduceSub, Int.reduceMul, Int.reduceToNat, Int.reduceBEq, Int.reduceBNe, df32, TSl, rightG, placeG, capF, cap_eta, hr, sub, List.take_succ_cons, List.take_zero, List.drop_zero, c2, k1, k2, k3, put]
        exact hR

def slotsG (args : List V) (h : List Blk) : Res := capF (fun c => .ok (.s (.i .i64 (slotsN c))) [] h) args
def TRs : Tab := addT 16 rightG noT
theorem TRs_snd : TRs.Snd Try.prog := addT_snd ok16 rright_snd (noT_snd _)
theorem rslots_snd : Snd Try.prog 66 (FSpec.of slotsG) := snd_run TRs_snd mixed Try.func66 dc66 200 fun args h K hc hS => by
  obtain ⟨c, rfl, hR⟩ := capF_spec hS
  clear hS
  simp only [spec_ok] at hR
  cases hr : rightB c with
  | false =>
    rw [show slotsN c = 0 by simp [slotsN, hr]] at hR
    simp only [Cap.cl]
    simp (config := { maxSteps := 10000000 }) only [EV1, EV2, EV3, EV4, EV5, EV6, addT, istep, pickR, putD, bin1R, un1R, slcR, bnd, capsOf, fillP, V.plain, V.cells, V.known, C.v, blk, setL, setH, eqS, eq1, cmpS, cmp1, isNil, popTo, killT, setT, leT, V.below, S.below, R.below, V.val, C.val, S.val, R.val, R.takes, vals, shows, unnamed, V.kill, V.names, C.names, S.names, R.names, List.set, List.replicate, ↓q_cond_t, ↓q_cond_f, if_true, if_false, reduceCtorEq, rvals, rvC, result, C.known, V.noL, C.noL, S.noL, R.noL, Option.map, true_and, and_true, ge_iff_le, gt_iff_lt, implies_true, q_ite_t, q_ite_f, beq_iff_eq, bne_iff_ne, q_ne, Nat.reduceAdd, Nat.reducePow, Int.reducePow, Nat.reduceMul, Nat.reduceSub, Nat.reduceLeDiff, Nat.reduceLT, Nat.reduceEqDiff, Int.reduceNeg, Int.reduceLT, Int.reduceLE, Int.reduceEq, Int.reduceNe, Int.reduceAdd, Int.reduceSub, Int.reduceMul, Int.reduceToNat, Int.reduceBEq, Int.reduceBNe, df66, TRs, rightG, capF, cap_eta, hr, sub, List.take_succ_cons, List.take_zero, List.drop_zero]
    exact hR
  | true =>
    have hb3 := (right_bounds hr).bits.1
    obtain ⟨t, o, b, d, e, g, i', j, k, l, m⟩ := c
    simp only [slotsN, hr, if_true] at hR hb3
    simp only [Cap.cl]
    rcases kinds3 t with rfl | rfl | rfl | ⟨k1, k2, k3⟩
    · simp only [Int.reduceEq, if_true, if_false] at hR
      simp (config := { maxSteps := 10000000 }) only [EV1, EV2, EV3, EV4, EV5, EV6, addT, istep, pickR, putD, bin1R, un1R, slcR, bnd, capsOf, fillP, V.plain, V.cells, V.known, C.v, blk, setL, setH, eqS, eq1, cmpS, cmp1, isNil, popTo, killT, setT, leT, V.below, S.below, R.below, V.val, C.val, S.val, R.val, R.takes, vals, shows, unnamed, V.kill, V.names, C.names, S.names, R.names, List.set, List.replicate, ↓q_cond_t, ↓q_cond_f, if_true, if_false, reduceCtorEq, rvals, rvC, result, C.known, V.noL, C.noL, S.noL, R.noL, Option.map, true_and, and_true, ge_iff_le, gt_iff_lt, implies_true, q_ite_t, q_ite_f, beq_iff_eq, bne_iff_ne, q_ne, Nat.reduceAdd, Nat.reducePow, Int.reducePow, Nat.reduceMul, Nat.reduceSub, Nat.reduceLeDiff, Nat.reduceLT, Nat.reduceEqDiff, Int.reduceNeg, Int.reduceLT, Int.reduceLE, Int.reduceEq, Int.reduceNe, Int.reduceAdd, Int.reduceSub, Int.reduceMul, Int.reduceToNat, Int.reduceBEq, Int.reduceBNe, df66, TRs, rightG, capF, cap_eta, hr, sub, List.take_succ_cons, List.take_zero, List.drop_zero]
      exact hR
    · by_cases k4 : b = 31
      · subst k4
        simp only [Int.reduceEq, if_true, if_false] at hR
        simp (config := { maxSteps := 10000000 }) only [EV1, EV2, EV3, EV4, EV5, EV6, addT, istep, pickR, putD, bin1R, un1R, slcR, bnd, capsOf, fillP, V.plain, V.cells, V.known, C.v, blk, setL, setH, eqS, eq1, cmpS, cmp1, isNil, popTo, killT, setT, leT, V.below, S.below, R.below, V.val, C.val, S.val, R.val, R.takes, vals, shows, unnamed, V.kill, V.names, C.names, S.names, R.names, List.set, List.replicate, ↓q_cond_t, ↓q_cond_f, if_true, if_false, reduceCtorEq, rvals, rvC, result, C.known, V.noL, C.noL, S.noL, R.noL, Option.map, true_and, and_true, ge_iff_le, gt_iff_lt, implies_true, q_ite_t, q_ite_f, beq_iff_eq, bne_iff_ne, q_ne, Nat.reduceAdd, Nat.reducePow, Int.reducePow, Nat.reduceMul, Nat.reduceSub, Nat.reduceLeDiff, Nat.reduceLT, Nat.reduceEqDiff, Int.reduceNeg, Int.reduceLT, Int.reduceLE, Int.reduceEq, Int.reduceNe, Int.reduceAdd, Int.reduceSub, Int.reduceMul, Int.reduceToNat, Int.reduceBEq, Int.reduceBNe, df66, TRs, rightG, capF, cap_eta, hr, sub, List.take_succ_cons, List.take_zero, List.drop_zero]
        exact hR
      · simp only [Int.reduceEq, k4, if_true, if_false] at hR
        simp (config := { maxSteps := 10000000 }) only [EV1, EV2, EV3, EV4, EV5, EV6, addT, istep, pickR, putD, bin1R, un1R, slcR, bnd, capsOf, fillP, V.plain, V.cells, V.known, C.v, blk, setL, setH, eqS, eq1, cmpS, cmp1, isNil, popTo, killT, setT, leT, V.below, S.below, R.below, V.val, C.val, S.val, R.val, R.takes, vals, shows, unnamed, V.kill, V.names, C.names, S.names, R.names, List.set, List.replicate, ↓q_cond_t, ↓q_cond_f, if_true, if_false, reduceCtorEq, rvals, rvC, result, C.known, V.noL, C.noL, S.noL, R.noL, Option.map, true_and, and_true, ge_iff_le, gt_iff_lt, implies_true, q_ite_t, q_ite_f, beq_iff_eq, bne_iff_ne, q_ne, Nat.reduceAdd, Nat.reducePow, Int.reducePow, Nat.reduceMul, Nat.reduceSub, Nat.reduceLeDiff, Nat.reduceLT, Nat.reduceEqDiff, Int.reduceNeg, Int.reduceLT, Int.reduceLE, Int.reduceEq, Int.reduceNe, Int.reduceAdd, Int.reduceSub, Int.reduceMul, Int.reduceToNat, Int.reduceBEq, Int.reduceBNe, df66, TRs, rightG, capF, cap_eta, hr, sub, List.take_succ_cons, List.take_zero, List.drop_zero, k4, hb3]
        exact hR
    · simp only [Int.reduceEq, if_true, if_false] at hR
      simp (config := { maxSteps := 10000000 }) only [EV1, EV2, EV3, EV4, EV5, EV6, addT, istep, pickR, putD, bin1R, un1R, slcR, bnd, capsOf, fillP, V.plain, V.cells, V.known, C.v, blk, setL, setH, eqS, eq1, cmpS, cmp1, isNil, popTo, killT, setT, leT, V.below, S.below, R.below, V.val, C.val, S.val, R.val, R.takes, vals, shows, unnamed, V.kill, V.names, C.names, S.names, R.names, List.set, List.replicate, ↓q_cond_t, ↓q_cond_f, if_true, if_false, reduceCtorEq, rvals, rvC, result, C.known, V.noL, C.noL, S.noL, R.noL, Option.map, true_and, and_true, ge_iff_le, gt_iff_lt, implies_true, q_ite_t, q_ite_f, beq_iff_eq, bne_iff_ne, q_ne, Nat.reduceAdd, Nat.reducePow, Int.reducePow, Nat.reduceMul, Nat.reduceSub, Nat.reduceLeDiff, Nat.reduceLT, Nat.reduceEqDiff, Int.reduceNeg, Int.reduceLT, Int.reduceLE, Int.reduceEq, Int.reduceNe, Int.reduceAdd, Int.reduceSub, Int.reduceMul, Int.reduceToNat, Int.reduceBEq, Int.reduceBNe, df66, TRs, rightG, capF, cap_eta, hr, sub, List.take_succ_cons, List.take_zero, List.drop_zero, hb3]
      exact hR
    · simp only [k1, k2, k3, if_false] at hR
      simp (config := { maxSteps := 10000000 }) only [EV1, EV2, EV3, EV4, EV5, EV6, addT, istep, pickR, putD, bin1R, un1R, slcR, bnd, capsOf, fillP, V.plain, V.cells, V.known, C.v, blk, setL, setH, eqS, eq1, cmpS, cmp1, isNil, popTo, killT, setT, leT, V.below, S.below, R.below, V.val, C.val, S.val, R.val, R.takes, vals, shows, unnamed, V.kill, V.names, C.names, S.names, R.names, List.set, List.replicate, ↓q_cond_t, ↓q_cond_f, if_true, if_false, reduceCtorEq, rvals, rvC, result, C.known, V.noL, C.noL, S.noL, R.noL, Option.map, true_and, and_true, ge_iff_le, gt_iff_lt, implies_true, q_ite_t, q_ite_f, beq_iff_eq, bne_iff_ne, q_ne, Nat.reduceAdd, Nat.reducePow, Int.reducePow, Nat.reduceMul, Nat.reduceSub, Nat.reduceLeDiff, Nat.reduceLT, Nat.reduceEqDiff, Int.reduceNeg, Int.reduceLT, Int.reduceLE, Int.reduceEq, Int.reduceNe, Int.reduceAdd, Int.reduceSub, Int.reduceMul, Int.reduceToNat, Int.reduceBEq, Int.reduceBNe, df66, TRs, rightG, capF, cap_eta, hr, sub, List.take_succ_cons, List.take_zero, List.drop_zero, k1, k2, k3]
      exact hR
def TRt : Tab := addT 66 slotsG noT
theorem TRt_snd : TRt.Snd Try.prog := addT_snd ok66 rslots_snd (noT_snd _)
theorem rslotAt_snd : Snd Try.prog 33 (FSpec.of slotAtG) := snd_run TRt_snd mixed Try.func33 dc33 200 fun args h K hc hS => by
  obtain ⟨c, i, rfl, hR⟩ := capIF_spec hS
  clear hS
  simp only [spec_ok, slotAtV] at hR
  simp only [Cap.cl]
  by_cases c2 : i < 0
  · rw [if_neg (by omega)] at hR
    simp (config := { maxSteps := 10000000 }) only [EV1, EV2, EV3, EV4, EV5, EV6, addT, istep, pickR, putD, bin1R, un1R, slcR, bnd, capsOf, fillP, V.plain, V.cells, V.known, C.v, blk, setL, setH, eqS, eq1, cmpS, cmp1, isNil, popTo, killT, setT, leT, V.below, S.below, R.below, V.val, C.val, S.val, R.val, R.takes, vals, shows, unnamed, V.kill, V.names, C.names, S.names, R.names, List.set, List.replicate, ↓q_cond_t, ↓q_cond_f, if_true, if_false, reduceCtorEq, rvals, rvC, result, C.known, V.noL, C.noL, S.noL, R.noL, Option.map, true_and, and_true, ge_iff_le, gt_iff_lt, implies_true, q_ite_t, q_ite_f, beq_iff_eq, bne_iff_ne, q_ne, Nat.reduceAdd, Nat.reducePow, Int.reducePow, Nat.reduceMul, Nat.reduceSub, Nat.reduceLeDiff, Nat.reduceLT, Nat.reduceEqDiff, Int.reduceNeg, Int.reduceLT, Int.reduceLE, Int.reduceEq, Int.reduceNe, Int.reduceAdd, Int.reduceSub, Int.reduceMul, Int.reduceToNat, Int.reduceBEq, Int.reduceBNe, df33, TRt, slotsG, capF, cap_eta, sub, List.take_succ_cons, List.take_zero, List.drop_zero, c2]
    exact hR
  · by_cases c3 : slotsN c ≤ i
    · rw [if_neg (by omega)] at hR
      simp (config := { maxSteps := 10000000 }) only [EV1, EV2, EV3, EV4, EV5, EV6, addT, istep, pickR, putD, bin1R, un1R, slcR, bnd, capsOf, fillP, V.plain, V.cells, V.known, C.v, blk, setL, setH, eqS, eq1, cmpS, cmp1, isNil, popTo, killT, setT, leT, V.below, S.below, R.below, V.val, C.val, S.val, R.val, R.takes, vals, shows, unnamed, V.kill, V.names, C.names, S.names, R.names, List.set, List.replicate, ↓q_cond_t, ↓q_cond_f, if_true, if_false, reduceCtorEq, rvals, rvC, result, C.known, V.noL, C.noL, S.noL, R.noL, Option.map, true_and, and_true, ge_iff_le, gt_iff_lt, implies_true, q_ite_t, q_ite_f, beq_iff_eq, bne_iff_ne, q_ne, Nat.reduceAdd, Nat.reducePow, Int.reducePow, Nat.reduceMul, Nat.reduceSub, Nat.reduceLeDiff, Nat.reduceLT, Nat.reduceEqDiff, Int.reduceNeg, Int.reduceLT, Int.reduceLE, Int.reduceEq, Int.reduceNe, Int.reduceAdd, Int.reduceSub, Int.reduceMul, Int.reduceToNat, Int.reduceBEq, Int.reduceBNe, df33, TRt, slotsG, capF, cap_eta, sub, List.take_succ_cons, List.take_zero, List.drop_zero, c2, c3]
      exact hR
    · rw [if_pos (by omega)] at hR
      simp (config := { maxSteps := 10000000 }) only [EV1, EV2, EV3, EV4, EV5, EV6, addT, istep, pickR, putD, bin1R, un1R, slcR, bnd, capsOf, fillP, V.plain, V.cells, V.known, C.v, blk, setL, setH, eqS, eq1, cmpS, cmp1, isNil, popTo, killT, setT, leT, V.below, S.below, R.below, V.val, C.val, S.val, R.val, R.takes, vals, shows, unnamed, V.kill, V.names, C.names, S.names, R.names, List.set, List.replicate, ↓q_cond_t, ↓q_cond_f, if_true, if_false, reduceCtorEq, rvals, rvC, result, C.known, V.noL, C.noL, S.noL, R.noL, Option.map, true_and, and_true, ge_iff_le, gt_iff_lt, implies_true, q_ite_t, q_ite_f, beq_iff_eq, bne_iff_ne, q_ne, Nat.reduceAdd, Nat.reducePow, Int.reducePow, Nat.reduceMul, Nat.reduceSub, Nat.reduceLeDiff, Nat.reduceLT, Nat.reduceEqDiff, Int.reduceNeg, Int.reduceLT, Int.reduceLE, Int.reduceEq, Int.reduceNe, Int.reduceAdd, Int.reduceSub, Int.reduceMul, Int.reduceToNat, Int.reduceBEq, Int.reduceBNe, df33, TRt, slotsG, capF, cap_eta, sub, List.take_succ_cons, List.take_zero, List.drop_zero, c2, c3]
      exact hR
end Go.Proofs.Ythegocjfnjfkdaa

/- Package heap: the kernel's words. -/
namespace Go.Proofs.Ythegocjfnjfkdaa
open Go.D
set_option linter.all false
set_option maxRecDepth 100000
set_option maxHeartbeats 4000000

/-- A kernel's word: where, of what size the objects are, from where on. -/
def currentG : List V → List Blk → Res
  | [], h => .ok (.agg [.i .i64 1, .i .i64 64, .i .i64 1024]) [] h
  | _, _ => .bad
theorem current_snd : Snd Try.prog 86 (FSpec.of currentG) := snd_run (noT_snd _) mixed Try.func86 dc86 100 fun args h K hc hS => by
  unfold currentG at hS
  split at hS
  · simp only [spec_ok] at hS
    simp (config := { maxSteps := 10000000 }) only [EV1, EV2, EV3, EV4, EV5, EV6, addT, istep, pickR, putD, bin1R, un1R, slcR, bnd, capsOf, fillP, V.plain, V.cells, V.known, C.v, blk, setL, setH, eqS, eq1, cmpS, cmp1, isNil, popTo, killT, setT, leT, V.below, S.below, R.below, V.val, C.val, S.val, R.val, R.takes, vals, shows, unnamed, V.kill, V.names, C.names, S.names, R.names, List.set, List.replicate, ↓q_cond_t, ↓q_cond_f, if_true, if_false, reduceCtorEq, rvals, rvC, result, C.known, V.noL, C.noL, S.noL, R.noL, Option.map, true_and, and_true, ge_iff_le, gt_iff_lt, implies_true, q_ite_t, q_ite_f, beq_iff_eq, bne_iff_ne, q_ne, Nat.reduceAdd, Nat.reducePow, Int.reducePow, Nat.reduceMul, Nat.reduceSub, Nat.reduceLeDiff, Nat.reduceLT, Nat.reduceEqDiff, Int.reduceNeg, Int.reduceLT, Int.reduceLE, Int.reduceEq, Int.reduceNe, Int.reduceAdd, Int.reduceSub, Int.reduceMul, Int.reduceToNat, Int.reduceBEq, Int.reduceBNe, df86, put, fillP, sub, List.take_succ_cons, List.take_zero, List.drop_zero]
    exact hS
  · exact hS.elim

noncomputable def keptF (f : Int → Int → Int → Nat → M → (M → List Blk) → List V → Res) : List V → List Blk → Res
  | .agg [.i .i64 x, .i .i64 y, .i .i64 z] :: rest, h => memF (f x y z) rest h
  | _, _ => .bad
theorem keptF_spec {f : Int → Int → Int → Nat → M → (M → List Blk) → List V → Res} {args : List V} {h : List Blk} {K : V → List Blk → Prop} (hS : (keptF f args h).spec K) :
    ∃ x y z a b m rest, args = .agg [.i .i64 x, .i .i64 y, .i .i64 z] :: .s (.p (.g a) 0) :: rest ∧ IsMem h a b m ∧ (f x y z b m (setM h a b) rest).spec K := by
  unfold keptF at hS
  split at hS
  · obtain ⟨a, b, m, rest, rfl, H, hS⟩ := memF_spec hS
    exact ⟨_, _, _, a, b, m, rest, rfl, H, hS⟩
  · exact hS.elim

/-- May it say that? -/
def keptB (words least : Int) (m : M) (n : Int) : Bool := decide (least ≤ n) && (n.tmod words == 0 && decide (n ≤ IntKind.i64.wrap (m.w.length - words)))
def mayM (at_ words least : Int) (b : Nat) (m : M) (st : M → List Blk) : List V → Res
  | [.s (.i .i64 n)] => .ob (words ≠ 0) (.ok (.s (.b (keptB words least m n))) [] (st m))
  | _ => .bad
noncomputable def mayG := keptF mayM
noncomputable def TMw : Tab := addT 90 wordsG noT
theorem TMw_snd : TMw.Snd Try.prog := addT_snd ok90 mwords_snd (noT_snd _)
theorem may_snd : Snd Try.prog 97 (FSpec.of mayG) := snd_run TMw_snd mixed Try.func97 dc97 100 fun args h K hc hS => by
  obtain ⟨x, y, z, a, b, m, rest, rfl, H, hS1⟩ := keptF_spec hS
  clear hS
  unfold mayM at hS1
  split at hS1
  · rename_i n
    simp only [spec_ok, spec_ob, setM_self H, keptB] at hS1
    obtain ⟨hy, hS⟩ := hS1
    have hy : ¬ y = 0 := hy
    by_cases c1 : z ≤ n
    · cases c2 : n.tmod y == 0
      · simp (config := { maxSteps := 10000000 }) only [EV1, EV2, EV3, EV4, EV5, EV6, addT, istep, pickR, putD, bin1R, un1R, slcR, bnd, capsOf, fillP, V.plain, V.cells, V.known, C.v, blk, setL, setH, eqS, eq1, cmpS, cmp1, isNil, popTo, killT, setT, leT, V.below, S.below, R.below, V.val, C.val, S.val, R.val, R.takes, vals, shows, unnamed, V.kill, V.names, C.names, S.names, R.names, List.set, List.replicate, ↓q_cond_t, ↓q_cond_f, if_true, if_false, reduceCtorEq, rvals, rvC, result, C.known, V.noL, C.noL, S.noL, R.noL, Option.map, true_and, and_true, ge_iff_le, gt_iff_lt, implies_true, q_ite_t, q_ite_f, beq_iff_eq, bne_iff_ne, q_ne, Nat.reduceAdd, Nat.reducePow, Int.reducePow, Nat.reduceMul, Nat.reduceSub, Nat.reduceLeDiff, Nat.reduceLT, Nat.reduceEqDiff, Int.reduceNeg, Int.reduceLT, Int.reduceLE, Int.reduceEq, Int.reduceNe, Int.reduceAdd, Int.reduceSub, Int.reduceMul, Int.reduceToNat, Int.reduceBEq, Int.reduceBNe, df97, TMw, wordsG, memF_eq H, wordsM, setM_self H, hy, c1, c2, sub, List.take_succ_cons, List.take_zero, List.drop_zero]
        simpa [c1, c2] using hS
      · have c3 : n.tmod y = 0 := by simpa using c2
        simp (config := { maxSteps := 10000000 }) only [EV1, EV2, EV3, EV4, EV5, EV6, addT, istep, pickR, putD, bin1R, un1R, slcR, bnd, capsOf, fillP, V.plain, V.cells, V.known, C.v, blk, setL, setH, eqS, eq1, cmpS, cmp1, isNil, popTo, killT, setT, leT, V.below, S.below, R.below, V.val, C.val, S.val, R.val, R.takes, vals, shows, unnamed, V.kill, V.names, C.names, S.names, R.names, List.set, List.replicate, ↓q_cond_t, ↓q_cond_f, if_true, if_false, reduceCtorEq, rvals, rvC, result, C.known, V.noL, C.noL, S.noL, R.noL, Option.map, true_and, and_true, ge_iff_le, gt_iff_lt, implies_true, q_ite_t, q_ite_f, beq_iff_eq, bne_iff_ne, q_ne, Nat.reduceAdd, Nat.reducePow, Int.reducePow, Nat.reduceMul, Nat.reduceSub, Nat.reduceLeDiff, Nat.reduceLT, Nat.reduceEqDiff, Int.reduceNeg, Int.reduceLT, Int.reduceLE, Int.reduceEq, Int.reduceNe, Int.reduceAdd, Int.reduceSub, Int.reduceMul, Int.reduceToNat, Int.reduceBEq, Int.reduceBNe, df97, TMw, wordsG, memF_eq H, wordsM, setM_self H, hy, c1, c2, c3, sub, List.take_succ_cons, List.take_zero, List.drop_zero]
        simpa [c1, c3] using hS
    · simp (config := { maxSteps := 10000000 }) only [EV1, EV2, EV3, EV4, EV5, EV6, addT, istep, pickR, putD, bin1R, un1R, slcR, bnd, capsOf, fillP, V.plain, V.cells, V.known, C.v, blk, setL, setH, eqS, eq1, cmpS, cmp1, isNil, popTo, killT, setT, leT, V.below, S.below, R.below, V.val, C.val, S.val, R.val, R.takes, vals, shows, unnamed, V.kill, V.names, C.names, S.names, R.names, List.set, List.replicate, ↓q_cond_t, ↓q_cond_f, if_true, if_false, reduceCtorEq, rvals, rvC, result, C.known, V.noL, C.noL, S.noL, R.noL, Option.map, true_and, and_true, ge_iff_le, gt_iff_lt, implies_true, q_ite_t, q_ite_f, beq_iff_eq, bne_iff_ne, q_ne, Nat.reduceAdd, Nat.reducePow, Int.reducePow, Nat.reduceMul, Nat.reduceSub, Nat.reduceLeDiff, Nat.reduceLT, Nat.reduceEqDiff, Int.reduceNeg, Int.reduceLT, Int.reduceLE, Int.reduceEq, Int.reduceNe, Int.reduceAdd, Int.reduceSub, Int.reduceMul, Int.reduceToNat, Int.reduceBEq, Int.reduceBNe, df97, TMw, wordsG, memF_eq H, wordsM, setM_self H, hy, c1, sub, List.take_succ_cons, List.take_zero, List.drop_zero]
      simpa [c1] using hS
  · exact hS1.elim

def setM_ (at_ words least : Int) (b : Nat) (m : M) (st : M → List Blk) : List V → Res
  | [.s (.i .i64 n)] => .ob (words ≠ 0) (.br (n == 0 || keptB words least m n)
      (.br (m.has at_ 1) (.ok (.s (.i .i64 0)) [] (st ((m.put at_.toNat (IntKind.u64.wrap n)).tick 1))) (.ok (.s (.i .i64 20)) [] (st m)))
      (.ok (.s (.i .i64 20)) [] (st m)))
  | _ => .bad
noncomputable def setG_ := keptF setM_
noncomputable def TKs : Tab := addT 97 mayG (addT 72 writeG (addT 74 readG noT))
theorem TKs_snd : TKs.Snd Try.prog := addT_snd ok97 may_snd (addT_snd ok72 mwrite_snd (addT_snd ok74 mread_snd (noT_snd _)))
theorem wrapu_u (n : Int) : u64 (IntKind.u64.wrap n) := by rw [IntKind.wrap_u64]; simp only [u64]; omega
theorem kset_snd : Snd Try.prog 87 (FSpec.of setG_) := snd_run TKs_snd mixed Try.func87 dc87 100 fun args h K hc hS => by
  obtain ⟨x, y, z, a, b, m, rest, rfl, H, hS1⟩ := keptF_spec hS
  clear hS
  unfold setM_ at hS1
  split at hS1
  · rename_i n
    simp only [spec_ok, spec_ob, spec_br, setM_self H] at hS1
    obtain ⟨hy, hS⟩ := hS1
    have hy : ¬ y = 0 := hy
    have hu := wrapu_u n
    by_cases c1 : n = 0
    · cases hh : m.has x 1
      · have hS := (hS.1 (by simp [c1])).2 hh
        simp (config := { maxSteps := 10000000 }) only [EV1, EV2, EV3, EV4, EV5, EV6, addT, istep, pickR, putD, bin1R, un1R, slcR, bnd, capsOf, fillP, V.plain, V.cells, V.known, C.v, blk, setL, setH, eqS, eq1, cmpS, cmp1, isNil, popTo, killT, setT, leT, V.below, S.below, R.below, V.val, C.val, S.val, R.val, R.takes, vals, shows, unnamed, V.kill, V.names, C.names, S.names, R.names, List.set, List.replicate, ↓q_cond_t, ↓q_cond_f, if_true, if_false, reduceCtorEq, rvals, rvC, result, C.known, V.noL, C.noL, S.noL, R.noL, Option.map, true_and, and_true, ge_iff_le, gt_iff_lt, implies_true, q_ite_t, q_ite_f, beq_iff_eq, bne_iff_ne, q_ne, Nat.reduceAdd, Nat.reducePow, Int.reducePow, Nat.reduceMul, Nat.reduceSub, Nat.reduceLeDiff, Nat.reduceLT, Nat.reduceEqDiff, Int.reduceNeg, Int.reduceLT, Int.reduceLE, Int.reduceEq, Int.reduceNe, Int.reduceAdd, Int.reduceSub, Int.reduceMul, Int.reduceToNat, Int.reduceBEq, Int.reduceBNe, df87, TKs, mayG, keptF, writeG, memF_eq H, writeM, mayM, setM_self H, hy, c1, hh, hu, sub, List.take_succ_cons, List.take_zero, List.drop_zero, wrapu_u]
        exact hS
      · have hS := (hS.1 (by simp [c1])).1 hh
        simp (config := { maxSteps := 10000000 }) only [EV1, EV2, EV3, EV4, EV5, EV6, addT, istep, pickR, putD, bin1R, un1R, slcR, bnd, capsOf, fillP, V.plain, V.cells, V.known, C.v, blk, setL, setH, eqS, eq1, cmpS, cmp1, isNil, popTo, killT, setT, leT, V.below, S.below, R.below, V.val, C.val, S.val, R.val, R.takes, vals, shows, unnamed, V.kill, V.names, C.names, S.names, R.names, List.set, List.replicate, ↓q_cond_t, ↓q_cond_f, if_true, if_false, reduceCtorEq, rvals, rvC, result, C.known, V.noL, C.noL, S.noL, R.noL, Option.map, true_and, and_true, ge_iff_le, gt_iff_lt, implies_true, q_ite_t, q_ite_f, beq_iff_eq, bne_iff_ne, q_ne, Nat.reduceAdd, Nat.reducePow, Int.reducePow, Nat.reduceMul, Nat.reduceSub, Nat.reduceLeDiff, Nat.reduceLT, Nat.reduceEqDiff, Int.reduceNeg, Int.reduceLT, Int.reduceLE, Int.reduceEq, Int.reduceNe, Int.reduceAdd, Int.reduceSub, Int.reduceMul, Int.reduceToNat, Int.reduceBEq, Int.reduceBNe, df87, TKs, mayG, keptF, writeG, memF_eq H, writeM, mayM, setM_self H, hy, c1, hh, hu, sub, List.take_succ_cons, List.take_zero, List.drop_zero, wrapu_u]
        simpa [c1] using hS
    · cases c2 : keptB y z m n
      · have hS := hS.2 (by simp [c1, c2])
        simp (config := { maxSteps := 10000000 }) only [EV1, EV2, EV3, EV4, EV5, EV6, addT, istep, pickR, putD, bin1R, un1R, slcR, bnd, capsOf, fillP, V.plain, V.cells, V.known, C.v, blk, setL, setH, eqS, eq1, cmpS, cmp1, isNil, popTo, killT, setT, leT, V.below, S.below, R.below, V.val, C.val, S.val, R.val, R.takes, vals, shows, unnamed, V.kill, V.names, C.names, S.names, R.names, List.set, List.replicate, ↓q_cond_t, ↓q_cond_f, if_true, if_false, reduceCtorEq, rvals, rvC, result, C.known, V.noL, C.noL, S.noL, R.noL, Option.map, true_and, and_true, ge_iff_le, gt_iff_lt, implies_true, q_ite_t, q_ite_f, beq_iff_eq, bne_iff_ne, q_ne, Nat.reduceAdd, Nat.reducePow, Int.reducePow, Nat.reduceMul, Nat.reduceSub, Nat.reduceLeDiff, Nat.reduceLT, Nat.reduceEqDiff, Int.reduceNeg, Int.reduceLT, Int.reduceLE, Int.reduceEq, Int.reduceNe, Int.reduceAdd, Int.reduceSub, Int.reduceMul, Int.reduceToNat, Int.reduceBEq, Int.reduceBNe, df87, TKs, mayG, keptF, writeG, memF_eq H, writeM, mayM, setM_self H, hy, c1, c2, hu, sub, List.take_succ_cons, List.take_zero, List.drop_zero]
        exact hS
      · cases hh : m.has x 1
        · have hS := (hS.1 (by simp [c2])).2 hh
          simp (config := { maxSteps := 10000000 }) only [EV1, EV2, EV3, EV4, EV5, EV6, addT, istep, pickR, putD, bin1R, un1R, slcR, bnd, capsOf, fillP, V.plain, V.cells, V.known, C.v, blk, setL, setH, eqS, eq1, cmpS, cmp1, isNil, popTo, killT, setT, leT, V.below, S.below, R.below, V.val, C.val, S.val, R.val, R.takes, vals, shows, unnamed, V.kill, V.names, C.names, S.names, R.names, List.set, List.replicate, ↓q_cond_t, ↓q_cond_f, if_true, if_false, reduceCtorEq, rvals, rvC, result, C.known, V.noL, C.noL, S.noL, R.noL, Option.map, true_and, and_true, ge_iff_le, gt_iff_lt, implies_true, q_ite_t, q_ite_f, beq_iff_eq, bne_iff_ne, q_ne, Nat.reduceAdd, Nat.reducePow, Int.reducePow, Nat.reduceMul, Nat.reduceSub, Nat.reduceLeDiff, Nat.reduceLT, Nat.reduceEqDiff, Int.reduceNeg, Int.reduceLT, Int.reduceLE, Int.reduceEq, Int.reduceNe, Int.reduceAdd, Int.reduceSub, Int.reduceMul, Int.reduceToNat, Int.reduceBEq, Int.reduceBNe, df87, TKs, mayG, keptF, writeG, memF_eq H, writeM, mayM, setM_self H, hy, c1, c2, hh, hu, sub, List.take_succ_cons, List.take_zero, List.drop_zero]
          exact hS
        · have hS := (hS.1 (by simp [c2])).1 hh
          simp (config := { maxSteps := 10000000 }) only [EV1, EV2, EV3, EV4, EV5, EV6, addT, istep, pickR, putD, bin1R, un1R, slcR, bnd, capsOf, fillP, V.plain, V.cells, V.known, C.v, blk, setL, setH, eqS, eq1, cmpS, cmp1, isNil, popTo, killT, setT, leT, V.below, S.below, R.below, V.val, C.val, S.val, R.val, R.takes, vals, shows, unnamed, V.kill, V.names, C.names, S.names, R.names, List.set, List.replicate, ↓q_cond_t, ↓q_cond_f, if_true, if_false, reduceCtorEq, rvals, rvC, result, C.known, V.noL, C.noL, S.noL, R.noL, Option.map, true_and, and_true, ge_iff_le, gt_iff_lt, implies_true, q_ite_t, q_ite_f, beq_iff_eq, bne_iff_ne, q_ne, Nat.reduceAdd, Nat.reducePow, Int.reducePow, Nat.reduceMul, Nat.reduceSub, Nat.reduceLeDiff, Nat.reduceLT, Nat.reduceEqDiff, Int.reduceNeg, Int.reduceLT, Int.reduceLE, Int.reduceEq, Int.reduceNe, Int.reduceAdd, Int.reduceSub, Int.reduceMul, Int.reduceToNat, Int.reduceBEq, Int.reduceBNe, df87, TKs, mayG, keptF, writeG, memF_eq H, writeM, mayM, setM_self H, hy, c1, c2, hh, hu, sub, List.take_succ_cons, List.take_zero, List.drop_zero]
          exact hS
  · exact hS1.elim

/-- What a kernel's word says; 0: nothing. -/
def keptV (words least : Int) (m : M) (w : Int) : Int := if w ≤ 65535 ∧ keptB words least m (IntKind.i64.wrap w) = true then IntKind.i64.wrap w else 0
def getM_ (at_ words least : Int) (b : Nat) (m : M) (st : M → List Blk) : List V → Res
  | [] => .ob (words ≠ 0) (.br (m.has at_ 1) (.ok (.s (.i .i64 (keptV words least m (m.at at_)))) [] (st (m.tick 1))) (.ok (.s (.i .i64 (keptV words least m 0))) [] (st m)))
  | _ => .bad
noncomputable def getG_ := keptF getM_
theorem keptB_tick (y z : Int) (m : M) (k n : Int) : keptB y z (m.tick k) n = keptB y z m n := rfl
theorem kget_snd : Snd Try.prog 88 (FSpec.of getG_) := snd_run TKs_snd mixed Try.func88 dc88 100 fun args h K hc hS => by
  obtain ⟨x, y, z, a, b, m, rest, rfl, H, hS1⟩ := keptF_spec hS
  clear hS
  unfold getM_ at hS1
  split at hS1
  · simp only [spec_ok, spec_ob, spec_br, setM_self H] at hS1
    obtain ⟨hy, hS⟩ := hS1
    have hy : ¬ y = 0 := hy
    cases hh : m.has x 1
    · have hS := hS.2 hh
      have w0 : IntKind.i64.wrap 0 = 0 := by decide
      cases c2 : keptB y z m 0
      · simp only [keptV, w0, c2, Bool.false_eq_true, and_false, if_false] at hS
        simp (config := { maxSteps := 10000000 }) only [EV1, EV2, EV3, EV4, EV5, EV6, addT, istep, pickR, putD, bin1R, un1R, slcR, bnd, capsOf, fillP, V.plain, V.cells, V.known, C.v, blk, setL, setH, eqS, eq1, cmpS, cmp1, isNil, popTo, killT, setT, leT, V.below, S.below, R.below, V.val, C.val, S.val, R.val, R.takes, vals, shows, unnamed, V.kill, V.names, C.names, S.names, R.names, List.set, List.replicate, ↓q_cond_t, ↓q_cond_f, if_true, if_false, reduceCtorEq, rvals, rvC, result, C.known, V.noL, C.noL, S.noL, R.noL, Option.map, true_and, and_true, ge_iff_le, gt_iff_lt, implies_true, q_ite_t, q_ite_f, beq_iff_eq, bne_iff_ne, q_ne, Nat.reduceAdd, Nat.reducePow, Int.reducePow, Nat.reduceMul, Nat.reduceSub, Nat.reduceLeDiff, Nat.reduceLT, Nat.reduceEqDiff, Int.reduceNeg, Int.reduceLT, Int.reduceLE, Int.reduceEq, Int.reduceNe, Int.reduceAdd, Int.reduceSub, Int.reduceMul, Int.reduceToNat, Int.reduceBEq, Int.reduceBNe, df88, TKs, mayG, keptF, readG, memF_eq H, readM, mayM, setM_self H, hy, c2, hh, w0, sub, List.take_succ_cons, List.take_zero, List.drop_zero]
        exact hS
      · simp only [keptV, w0, c2, if_true, and_true] at hS
        rw [if_pos (by omega)] at hS
        simp (config := { maxSteps := 10000000 }) only [EV1, EV2, EV3, EV4, EV5, EV6, addT, istep, pickR, putD, bin1R, un1R, slcR, bnd, capsOf, fillP, V.plain, V.cells, V.known, C.v, blk, setL, setH, eqS, eq1, cmpS, cmp1, isNil, popTo, killT, setT, leT, V.below, S.below, R.below, V.val, C.val, S.val, R.val, R.takes, vals, shows, unnamed, V.kill, V.names, C.names, S.names, R.names, List.set, List.replicate, ↓q_cond_t, ↓q_cond_f, if_true, if_false, reduceCtorEq, rvals, rvC, result, C.known, V.noL, C.noL, S.noL, R.noL, Option.map, true_and, and_true, ge_iff_le, gt_iff_lt, implies_true, q_ite_t, q_ite_f, beq_iff_eq, bne_iff_ne, q_ne, Nat.reduceAdd, Nat.reducePow, Int.reducePow, Nat.reduceMul, Nat.reduceSub, Nat.reduceLeDiff, Nat.reduceLT, Nat.reduceEqDiff, Int.reduceNeg, Int.reduceLT, Int.reduceLE, Int.reduceEq, Int.reduceNe, Int.reduceAdd, Int.reduceSub, Int.reduceMul, Int.reduceToNat, Int.reduceBEq, Int.reduceBNe, df88, TKs, mayG, keptF, readG, memF_eq H, readM, mayM, setM_self H, hy, c2, hh, w0, sub, List.take_succ_cons, List.take_zero, List.drop_zero]
        exact hS
    · have hS := hS.1 hh
      by_cases c1 : m.at x ≤ 65535
      · have c3 : ¬ (65535 < m.at x) := by omega
        cases c2 : keptB y z m (IntKind.i64.wrap (m.at x))
        · simp only [keptV, c1, c2, Bool.false_eq_true, and_false, if_false] at hS
          simp (config := { maxSteps := 10000000 }) only [EV1, EV2, EV3, EV4, EV5, EV6, addT, istep, pickR, putD, bin1R, un1R, slcR, bnd, capsOf, fillP, V.plain, V.cells, V.known, C.v, blk, setL, setH, eqS, eq1, cmpS, cmp1, isNil, popTo, killT, setT, leT, V.below, S.below, R.below, V.val, C.val, S.val, R.val, R.takes, vals, shows, unnamed, V.kill, V.names, C.names, S.names, R.names, List.set, List.replicate, ↓q_cond_t, ↓q_cond_f, if_true, if_false, reduceCtorEq, rvals, rvC, result, C.known, V.noL, C.noL, S.noL, R.noL, Option.map, true_and, and_true, ge_iff_le, gt_iff_lt, implies_true, q_ite_t, q_ite_f, beq_iff_eq, bne_iff_ne, q_ne, Nat.reduceAdd, Nat.reducePow, Int.reducePow, Nat.reduceMul, Nat.reduceSub, Nat.reduceLeDiff, Nat.reduceLT, Nat.reduceEqDiff, Int.reduceNeg, Int.reduceLT, Int.reduceLE, Int.reduceEq, Int.reduceNe, Int.reduceAdd, Int.reduceSub, Int.reduceMul, Int.reduceToNat, Int.reduceBEq, Int.reduceBNe, df88, TKs, mayG, keptF, readG, memF_eq H, memF_set H, readM, mayM, setM_self H, hy, c2, c3, hh, keptB_tick, sub, List.take_succ_cons, List.take_zero, List.drop_zero]
          exact hS
        · simp only [keptV, c1, c2, and_self, if_true] at hS
          simp (config := { maxSteps := 10000000 }) only [EV1, EV2, EV3, EV4, EV5, EV6, addT, istep, pickR, putD, bin1R, un1R, slcR, bnd, capsOf, fillP, V.plain, V.cells, V.known, C.v, blk, setL, setH, eqS, eq1, cmpS, cmp1, isNil, popTo, killT, setT, leT, V.below, S.below, R.below, V.val, C.val, S.val, R.val, R.takes, vals, shows, unnamed, V.kill, V.names, C.names, S.names, R.names, List.set, List.replicate, ↓q_cond_t, ↓q_cond_f, if_true, if_false, reduceCtorEq, rvals, rvC, result, C.known, V.noL, C.noL, S.noL, R.noL, Option.map, true_and, and_true, ge_iff_le, gt_iff_lt, implies_true, q_ite_t, q_ite_f, beq_iff_eq, bne_iff_ne, q_ne, Nat.reduceAdd, Nat.reducePow, Int.reducePow, Nat.reduceMul, Nat.reduceSub, Nat.reduceLeDiff, Nat.reduceLT, Nat.reduceEqDiff, Int.reduceNeg, Int.reduceLT, Int.reduceLE, Int.reduceEq, Int.reduceNe, Int.reduceAdd, Int.reduceSub, Int.reduceMul, Int.reduceToNat, Int.reduceBEq, Int.reduceBNe, df88, TKs, mayG, keptF, readG, memF_eq H, memF_set H, readM, mayM, setM_self H, hy, c2, c3, hh, keptB_tick, sub, List.take_succ_cons, List.take_zero, List.drop_zero]
          exact hS
      · have c3 : 65535 < m.at x := by omega
        simp only [keptV, c1, false_and, if_false] at hS
        simp (config := { maxSteps := 10000000 }) only [EV1, EV2, EV3, EV4, EV5, EV6, addT, istep, pickR, putD, bin1R, un1R, slcR, bnd, capsOf, fillP, V.plain, V.cells, V.known, C.v, blk, setL, setH, eqS, eq1, cmpS, cmp1, isNil, popTo, killT, setT, leT, V.below, S.below, R.below, V.val, C.val, S.val, R.val, R.takes, vals, shows, unnamed, V.kill, V.names, C.names, S.names, R.names, List.set, List.replicate, ↓q_cond_t, ↓q_cond_f, if_true, if_false, reduceCtorEq, rvals, rvC, result, C.known, V.noL, C.noL, S.noL, R.noL, Option.map, true_and, and_true, ge_iff_le, gt_iff_lt, implies_true, q_ite_t, q_ite_f, beq_iff_eq, bne_iff_ne, q_ne, Nat.reduceAdd, Nat.reducePow, Int.reducePow, Nat.reduceMul, Nat.reduceSub, Nat.reduceLeDiff, Nat.reduceLT, Nat.reduceEqDiff, Int.reduceNeg, Int.reduceLT, Int.reduceLE, Int.reduceEq, Int.reduceNe, Int.reduceAdd, Int.reduceSub, Int.reduceMul, Int.reduceToNat, Int.reduceBEq, Int.reduceBNe, df88, TKs, mayG, keptF, readG, memF_eq H, memF_set H, readM, mayM, setM_self H, hy, c3, hh, keptB_tick, sub, List.take_succ_cons, List.take_zero, List.drop_zero]
        exact hS
  · exact hS1.elim

noncomputable def TCu : Tab := addT 86 currentG (addT 87 setG_ (addT 88 getG_ noT))
theorem TCu_snd : TCu.Snd Try.prog := addT_snd ok86 current_snd (addT_snd ok87 kset_snd (addT_snd ok88 kget_snd (noT_snd _)))
noncomputable def setCurG := memF (setM_ 1 64 1024)
theorem setCur_snd : Snd Try.prog 62 (FSpec.of setCurG) := snd_run TCu_snd mixed Try.func62 dc62 100 fun args h K hc hS => by
  obtain ⟨a, b, m, rest, rfl, H, hS1⟩ := memF_spec hS
  clear hS
  have hS := hS1
  clear hS1
  unfold setM_ at hS
  split at hS
  · rename_i n
    simp only [spec_ok, spec_ob, spec_br, setM_self H] at hS
    obtain ⟨_, hS⟩ := hS
    simp (config := { maxSteps := 10000000 }) only [EV1, EV2, EV3, EV4, EV5, EV6, addT, istep, pickR, putD, bin1R, un1R, slcR, bnd, capsOf, fillP, V.plain, V.cells, V.known, C.v, blk, setL, setH, eqS, eq1, cmpS, cmp1, isNil, popTo, killT, setT, leT, V.below, S.below, R.below, V.val, C.val, S.val, R.val, R.takes, vals, shows, unnamed, V.kill, V.names, C.names, S.names, R.names, List.set, List.replicate, ↓q_cond_t, ↓q_cond_f, if_true, if_false, reduceCtorEq, rvals, rvC, result, C.known, V.noL, C.noL, S.noL, R.noL, Option.map, true_and, and_true, ge_iff_le, gt_iff_lt, implies_true, q_ite_t, q_ite_f, beq_iff_eq, bne_iff_ne, q_ne, Nat.reduceAdd, Nat.reducePow, Int.reducePow, Nat.reduceMul, Nat.reduceSub, Nat.reduceLeDiff, Nat.reduceLT, Nat.reduceEqDiff, Int.reduceNeg, Int.reduceLT, Int.reduceLE, Int.reduceEq, Int.reduceNe, Int.reduceAdd, Int.reduceSub, Int.reduceMul, Int.reduceToNat, Int.reduceBEq, Int.reduceBNe, df62, TCu, currentG, setG_, keptF, memF_eq H, setM_, setM_self H]
    simpa only [Bool.or_eq_true, beq_iff_eq, Bool.eq_false_iff, ne_eq, Int.reduceToNat] using hS
  · exact hS.elim
noncomputable def getCurG := memF (getM_ 1 64 1024)
theorem getCur_snd : Snd Try.prog 63 (FSpec.of getCurG) := snd_run TCu_snd mixed Try.func63 dc63 100 fun args h K hc hS => by
  obtain ⟨a, b, m, rest, rfl, H, hS1⟩ := memF_spec hS
  clear hS
  have hS := hS1
  clear hS1
  unfold getM_ at hS
  split at hS
  · simp only [spec_ok, spec_ob, spec_br, setM_self H] at hS
    obtain ⟨_, hS⟩ := hS
    simp (config := { maxSteps := 10000000 }) only [EV1, EV2, EV3, EV4, EV5, EV6, addT, istep, pickR, putD, bin1R, un1R, slcR, bnd, capsOf, fillP, V.plain, V.cells, V.known, C.v, blk, setL, setH, eqS, eq1, cmpS, cmp1, isNil, popTo, killT, setT, leT, V.below, S.below, R.below, V.val, C.val, S.val, R.val, R.takes, vals, shows, unnamed, V.kill, V.names, C.names, S.names, R.names, List.set, List.replicate, ↓q_cond_t, ↓q_cond_f, if_true, if_false, reduceCtorEq, rvals, rvC, result, C.known, V.noL, C.noL, S.noL, R.noL, Option.map, true_and, and_true, ge_iff_le, gt_iff_lt, implies_true, q_ite_t, q_ite_f, beq_iff_eq, bne_iff_ne, q_ne, Nat.reduceAdd, Nat.reducePow, Int.reducePow, Nat.reduceMul, Nat.reduceSub, Nat.reduceLeDiff, Nat.reduceLT, Nat.reduceEqDiff, Int.reduceNeg, Int.reduceLT, Int.reduceLE, Int.reduceEq, Int.reduceNe, Int.reduceAdd, Int.reduceSub, Int.reduceMul, Int.reduceToNat, Int.reduceBEq, Int.reduceBNe, df63, TCu, currentG, getG_, keptF, memF_eq H, getM_, setM_self H]
    simpa only [Bool.eq_false_iff, ne_eq] using hS
  · exact hS.elim
end Go.Proofs.Ythegocjfnjfkdaa

/- The machine's memory: what is read behind a write. -/
namespace Go.Proofs.Ythegocjfnjfkdaa
open Go.D
set_option linter.all false
set_option maxRecDepth 100000
set_option maxHeartbeats 4000000

theorem nth_set {α : Type} {d : α} : ∀ (l : List α) (i j : Nat) (x : α), nth d (l.set i x) j = if i = j ∧ i < l.length then x else nth d l j
  | [], i, j, x => by simp [nth]
  | y :: l, 0, 0, x => by simp [nth]
  | y :: l, 0, j + 1, x => by simp [nth]
  | y :: l, i + 1, 0, x => by simp [nth]
  | y :: l, i + 1, j + 1, x => by simp [nth, nth_set l i j x]
theorem nth_replicate {α : Type} {d : α} {n i : Nat} : nth d (List.replicate n d) i = d := by
  induction n generalizing i with
  | zero => rfl
  | succ n ih => cases i with
    | zero => rfl
    | succ i => exact ih
theorem M.at_put (m : M) (i : Nat) (x : Int) (j : Int) : (m.put i x).at j = if i = j.toNat ∧ i < m.w.length then uw x else m.at j := by
  simp only [M.at, M.put, nth_set]
theorem M.at_tick (m : M) (k j : Int) : (m.tick k).at j = m.at j := rfl
theorem M.at_zero (k : Nat) (j : Int) : (M.zero k).at j = 0 := by simp only [M.at, M.zero, nth_replicate]
theorem M.at_fill (m : M) (a : Nat) (x : Int) (j : Int) : ∀ k : Nat, (m.fill a x k).at j = if a ≤ j.toNat ∧ j.toNat < a + k ∧ j.toNat < m.w.length then uw x else m.at j
  | 0 => by rw [M.fill, if_neg (by omega)]
  | k + 1 => by
    rw [M.fill, M.at_put, M.fill_len, M.at_fill m a x j k]
    split
    · rw [if_pos (by omega)]
    · split
      · rw [if_pos (by omega)]
      · rw [if_neg (by omega)]
/-- Two memories of the same words and steps are the same. -/
theorem M.ext_at {m k : M} (hl : m.w.length = k.w.length) (hn : m.n = k.n) (h : ∀ i : Nat, i < m.w.length → m.at i = k.at i) : m = k := by
  refine M.ext' (List.ext_getElem hl fun i h1 h2 => ?_) hn
  have := h i h1
  simp only [M.at, Int.toNat_natCast, nth_eq h1, nth_eq h2] at this
  exact this
theorem M.has_of {m : M} {a k : Int} (h : 0 ≤ a ∧ 0 ≤ k ∧ a + k ≤ m.w.length) : m.has a k = true := by rw [M.has_iff]; omega
theorem M.has_no {m : M} {a k : Int} (h : ¬ (0 ≤ a ∧ 0 ≤ k ∧ a + k ≤ m.w.length)) : m.has a k = false := by
  rw [Bool.eq_false_iff]
  intro e
  rw [M.has_iff] at e
  omega
end Go.Proofs.Ythegocjfnjfkdaa

/- Law 06: CapsBack. -/
namespace Go.Proofs.Ythegocjfnjfkdaa
open Go.D
set_option linter.all false
set_option maxRecDepth 100000
set_option maxHeartbeats 4000000

theorem right_size {c : Cap} (h : rightB c = true) (hn : 0 < szN c) : 1024 ≤ c.obj ∧ c.obj + szN c ≤ 65536 ∧ c.obj.tmod (szN c) = 0 := by
  have hb := right_bounds h
  obtain ⟨t, o, b, d, e, g, i, j, k, l, m⟩ := c
  have ho := hb.obj
  simp only at ho
  simp only [rightB] at h
  simp only [szN] at hn ⊢
  rcases kinds t with rfl | rfl | rfl | rfl | rfl | rfl | rfl | rfl | rfl | rfl | rfl | rfl | rfl | rfl | ⟨k0, k1, k2, k3, k4, k5, k6, k7, k8, k9, k10, k11, k12, k13, hx⟩
  case inr.inr.inr.inr.inr.inr.inr.inr.inr.inr.inr.inr.inr.inr => simp only [k0, k1, k2, k3, k4, k5, k6, k7, k8, k9, k10, k11, k12, k13, if_false] at hn; exact absurd hn (by decide)
  all_goals simp only [Int.reduceEq, if_true, if_false, ite_t, ite_f, not_or, Classical.not_not, nOk_iff, not_and] at h hn ⊢
  all_goals try exact absurd hn (by decide)
  case inr.inl =>
    have hb : 4 ≤ b ∧ b ≤ 15 := by have := h.1.1; simpa [Classical.not_imp] using this
    have h2 := h.2.1 hn
    have hc : b = 4 ∨ b = 5 ∨ b = 6 ∨ b = 7 ∨ b = 8 ∨ b = 9 ∨ b = 10 ∨ b = 11 ∨ b = 12 ∨ b = 13 ∨ b = 14 ∨ b = 15 := by omega
    rw [uRaw_eq hb] at h2 ⊢
    rcases hc with rfl | rfl | rfl | rfl | rfl | rfl | rfl | rfl | rfl | rfl | rfl | rfl <;> simp only [Int.reduceToNat, Int.reducePow] at h2 ⊢ <;> rw [Int.tmod_eq_emod_of_nonneg ho.1] at h2 ⊢ <;> omega
  case inr.inr.inl =>
    have hb : 1 ≤ b ∧ b ≤ 8 := by have := h.1.1; simpa [Classical.not_imp] using this
    have h2 := h.2.1 hn
    have hc : b = 1 ∨ b = 2 ∨ b = 3 ∨ b = 4 ∨ b = 5 ∨ b = 6 ∨ b = 7 ∨ b = 8 := by omega
    rw [nRaw_eq hb] at h2 ⊢
    rcases hc with rfl | rfl | rfl | rfl | rfl | rfl | rfl | rfl <;> simp only [Int.reduceToNat, Int.reducePow, Int.reduceMul] at h2 ⊢ <;> rw [Int.tmod_eq_emod_of_nonneg ho.1] at h2 ⊢ <;> omega
  case inr.inr.inr.inr.inr.inr.inr.inr.inr.inr.inl =>
    have h2 := h.2.1 hn
    rcases zrange.1 h.1.1 with rfl | hb
    · simp only [if_true] at h2 ⊢; rw [Int.tmod_eq_emod_of_nonneg ho.1] at h2 ⊢; omega
    · have hc : b = 1 ∨ b = 2 ∨ b = 3 ∨ b = 4 ∨ b = 5 ∨ b = 6 ∨ b = 7 ∨ b = 8 := by omega
      rw [if_neg (by omega), nRaw_eq hb] at h2 ⊢
      rcases hc with rfl | rfl | rfl | rfl | rfl | rfl | rfl | rfl <;> simp only [Int.reduceToNat, Int.reducePow, Int.reduceMul] at h2 ⊢ <;> rw [Int.tmod_eq_emod_of_nonneg ho.1] at h2 ⊢ <;> omega
  all_goals
    have h2 := h.2.1
    rw [Int.tmod_eq_emod_of_nonneg ho.1] at h2 ⊢
    omega

def capsBackG (args : List V) (h : List Blk) : Res := cap2F (fun c d => .ok (.s (.b true)) [] h) args
theorem capsBack_snd : Snd Try.prog 4 (FSpec.of capsBackG) := snd_run T6_snd mixed Try.func4 dc4 300 fun args h K hc hS => by
  obtain ⟨c, d, rfl, hR⟩ := cap2F_spec hS
  clear hS
  simp only [spec_ok] at hR
  cases hr : rightB c with
  | false =>
    simp only [Cap.cl]
    cases hd : rightB d <;> simp (config := { maxSteps := 10000000 }) only [EV1, EV2, EV3, EV4, EV5, EV6, addT, istep, pickR, putD, bin1R, un1R, slcR, bnd, capsOf, fillP, V.plain, V.cells, V.known, C.v, blk, setL, setH, eqS, eq1, cmpS, cmp1, isNil, popTo, killT, setT, leT, V.below, S.below, R.below, V.val, C.val, S.val, R.val, R.takes, vals, shows, unnamed, V.kill, V.names, C.names, S.names, R.names, List.set, List.replicate, ↓q_cond_t, ↓q_cond_f, if_true, if_false, reduceCtorEq, rvals, rvC, result, C.known, V.noL, C.noL, S.noL, R.noL, Option.map, true_and, and_true, ge_iff_le, gt_iff_lt, implies_true, q_ite_t, q_ite_f, beq_iff_eq, bne_iff_ne, q_ne, Nat.reduceAdd, Nat.reducePow, Int.reducePow, Nat.reduceMul, Nat.reduceSub, Nat.reduceLeDiff, Nat.reduceLT, Nat.reduceEqDiff, Int.reduceNeg, Int.reduceLT, Int.reduceLE, Int.reduceEq, Int.reduceNe, Int.reduceAdd, Int.reduceSub, Int.reduceMul, Int.reduceToNat, Int.reduceBEq, Int.reduceBNe, df4, T6, awake6G, encG, decG, rightG, capWG, sameG, cap2F, capF, cap_eta, hr, hd, Cap.cl, capZ, put, fillP] <;> exact hR
  | true =>
    obtain ⟨b1, b2, b3, b4⟩ := enc_back hr
    simp only [Cap.cl]
    cases hd : rightB d
    all_goals simp (config := { maxSteps := 10000000 }) only [EV1, EV2, EV3, EV4, EV5, EV6, addT, istep, pickR, putD, bin1R, un1R, slcR, bnd, capsOf, fillP, V.plain, V.cells, V.known, C.v, blk, setL, setH, eqS, eq1, cmpS, cmp1, isNil, popTo, killT, setT, leT, V.below, S.below, R.below, V.val, C.val, S.val, R.val, R.takes, vals, shows, unnamed, V.kill, V.names, C.names, S.names, R.names, List.set, List.replicate, ↓q_cond_t, ↓q_cond_f, if_true, if_false, reduceCtorEq, rvals, rvC, result, C.known, V.noL, C.noL, S.noL, R.noL, Option.map, true_and, and_true, ge_iff_le, gt_iff_lt, implies_true, q_ite_t, q_ite_f, beq_iff_eq, bne_iff_ne, q_ne, Nat.reduceAdd, Nat.reducePow, Int.reducePow, Nat.reduceMul, Nat.reduceSub, Nat.reduceLeDiff, Nat.reduceLT, Nat.reduceEqDiff, Int.reduceNeg, Int.reduceLT, Int.reduceLE, Int.reduceEq, Int.reduceNe, Int.reduceAdd, Int.reduceSub, Int.reduceMul, Int.reduceToNat, Int.reduceBEq, Int.reduceBNe, df4, T6, awake6G, encG, decG, rightG, capWG, sameG, cap2F, capF, cap_eta, hr, hd, b1, b2, b3, b4, Cap.cl, capZ, put, fillP]
    all_goals
      have hz := right_size hr
      have hb := (right_bounds hr).obj
      have hw : 0 < szN c → IntKind.i64.wrap (c.obj + szN c) = c.obj + szN c := fun n => wrap64 (by omega) (by have := hz n; omega)
      refine ⟨fun n _ _ => by omega, fun n => ?_, fun _ => ?_⟩
      · obtain ⟨n, n2⟩ := n
        rw [hw n] at n2
        have := hz n
        exact n2.elim (fun x => by omega) fun y => y.elim (fun x => by omega) fun x => absurd this.2.2 x
    · exact hR
    · obtain ⟨q1, q2, q3, q4⟩ := enc_back hd
      have hcd : c.w0 = d.w0 → c.num = d.num → c = d := fun e1 e2 => by rw [← b4, ← q4, e1, e2]
      refine cast (congrArg (fun x => K (V.s (S.b x)) h) ?_) hR
      by_cases e : c = d
      · subst e; simp
      · by_cases e1 : c.w0 = d.w0
        · have e2 : ¬ c.num = d.num := fun e2 => e (hcd e1 e2)
          simp only [e1, beq_self_eq_true, cond_true]
          rw [show (c.num == d.num) = false by simpa using e2]
          rw [eq_comm, beq_iff_eq, eq_comm, Bool.eq_false_iff]
          simp only [ne_eq, Bool.and_eq_true, beq_iff_eq]
          exact fun x => e (Cap.ext' x.1 x.2.1 x.2.2.1 x.2.2.2.1 x.2.2.2.2.1 x.2.2.2.2.2.1 x.2.2.2.2.2.2.1 x.2.2.2.2.2.2.2.1 x.2.2.2.2.2.2.2.2.1 x.2.2.2.2.2.2.2.2.2.1 x.2.2.2.2.2.2.2.2.2.2)
        · rw [show (c.w0 == d.w0) = false by simpa using e1, cond_false]
          rw [eq_comm, beq_iff_eq, eq_comm, Bool.eq_false_iff]
          simp only [ne_eq, Bool.and_eq_true, beq_iff_eq]
          exact fun x => e (Cap.ext' x.1 x.2.1 x.2.2.1 x.2.2.2.1 x.2.2.2.2.1 x.2.2.2.2.2.1 x.2.2.2.2.2.2.1 x.2.2.2.2.2.2.2.1 x.2.2.2.2.2.2.2.2.1 x.2.2.2.2.2.2.2.2.2.1 x.2.2.2.2.2.2.2.2.2.2)
end Go.Proofs.Ythegocjfnjfkdaa

/- Law 09: awake, HeapSizes, HeapNested. -/
namespace Go.Proofs.Ythegocjfnjfkdaa
open Go.D
set_option linter.all false
set_option maxRecDepth 100000
set_option maxHeartbeats 4000000

noncomputable def T9 : Tab := addT 62 setCurG (addT 63 getCurG (addT 39 newM (addT 26 hsizeG (addT 28 lineG (addT 30 bootG (addT 32 slotAtG (addT 34 apartG (addT 36 withinG
  (addT 27 hsizeG (addT 29 lineG (addT 31 bootG (addT 33 slotAtG (addT 35 apartG (addT 37 withinG
  (addT 15 rightG (addT 21 wordG (addT 22 wordG noT)))))))))))))))))
theorem T9_snd : T9.Snd Try.prog := addT_snd ok62 setCur_snd (addT_snd ok63 getCur_snd (addT_snd ok39 new_snd (addT_snd ok26 hsize_snd (addT_snd ok28 line_snd (addT_snd ok30 boot_snd (addT_snd ok32 slotAt_snd (addT_snd ok34 apart_snd (addT_snd ok36 within_snd
  (addT_snd ok27 rhsize_snd (addT_snd ok29 rline_snd (addT_snd ok31 rboot_snd (addT_snd ok33 rslotAt_snd (addT_snd ok35 rapart_snd (addT_snd ok37 rwithin_snd
  (addT_snd ok15 right_snd (addT_snd ok21 hwords_snd (addT_snd ok22 rhwords_snd (noT_snd _))))))))))))))))))

def awakeG : List V → List Blk → Res
  | [], h => .ok (.s (.b true)) [] h
  | _, _ => .bad
theorem memH_app (h : List Blk) (m : M) : memH h m = h ++ [MB (h.length + 1) m, MW m] := rfl
theorem awake9_snd : Snd Try.prog 25 (FSpec.of awakeG) := snd_cut T9_snd mixed Try.func25 dc25 400 fun args h K hc hS => by
  unfold awakeG at hS
  split at hS
  · simp only [spec_ok] at hS
    have s1 : hszV 2 8 = 1024 := by decide
    have s2 : hszE 2 8 = 0 := by decide
    have s3 : hszE 3 1 = 90 := by decide
    have s4 : lineV 15 = 124 := by decide
    have s5 : bootV 7 = 60 := by decide
    have s6 : slotAtV ⟨2, 2048, 1, 0, 0, 0, 0, 0, 0, 0, 0⟩ 1 = 2052 := by decide
    have s7 : apartB ⟨1, 2048, 11, 0, 0, 0, 0, 0, 0, 0, 0⟩ ⟨3, 2112, 0, 0, 0, 0, 0, 0, 0, 0, 0⟩ = false := by decide
    have s8 : withinB ⟨3, 2112, 0, 0, 0, 0, 0, 0, 0, 0, 0⟩ ⟨1, 2048, 11, 0, 0, 0, 0, 0, 0, 0, 0⟩ = true := by decide
    have l0 : (M.zero 11).w.length = 2048 := M.zero_len 11
    have k1 : keptB 64 1024 (M.zero 11) 1088 = true := by simp only [keptB, l0]; decide
    have k2 : keptB 64 1024 (((M.zero 11).put 1 (IntKind.u64.wrap 1088)).tick 1) 1056 = false := by simp only [keptB, M.tick_len, M.put_len, l0]; decide
    have h1 : (M.zero 11).has 1 1 = true := M.has_of (by omega)
    have h2 : (((M.zero 11).put 1 (IntKind.u64.wrap 1088)).tick 1).has 1 1 = true := M.has_of (by simp only [M.tick_len, M.put_len, l0]; omega)
    have e : (((M.zero 11).put 1 (IntKind.u64.wrap 1088)).tick 1).at 1 = 1088 := by
      rw [M.at_tick, M.at_put, if_pos ⟨rfl, by omega⟩]; decide
    have v : keptV 64 1024 (((M.zero 11).put 1 (IntKind.u64.wrap 1088)).tick 1) 1088 = 1088 := by
      simp only [keptV, keptB, M.tick_len, M.put_len, l0]; decide
    simp (config := { maxSteps := 10000000 }) only [EV1, EV2, EV3, EV4, EV5, EV6, addT, istep, pickR, putD, bin1R, un1R, slcR, bnd, capsOf, fillP, V.plain, V.cells, V.known, C.v, blk, setL, setH, eqS, eq1, cmpS, cmp1, isNil, popTo, killT, setT, leT, V.below, S.below, R.below, V.val, C.val, S.val, R.val, R.takes, vals, shows, unnamed, V.kill, V.names, C.names, S.names, R.names, List.set, List.replicate, ↓q_cond_t, ↓q_cond_f, if_true, if_false, reduceCtorEq, rvals, rvC, result, C.known, V.noL, C.noL, S.noL, R.noL, Option.map, true_and, and_true, ge_iff_le, gt_iff_lt, implies_true, q_ite_t, q_ite_f, beq_iff_eq, bne_iff_ne, q_ne, Nat.reduceAdd, Nat.reducePow, Int.reducePow, Nat.reduceMul, Nat.reduceSub, Nat.reduceLeDiff, Nat.reduceLT, Nat.reduceEqDiff, Int.reduceNeg, Int.reduceLT, Int.reduceLE, Int.reduceEq, Int.reduceNe, Int.reduceAdd, Int.reduceSub, Int.reduceMul, Int.reduceToNat, Int.reduceBEq, Int.reduceBNe, df25, T9, newM, setCurG, getCurG, hsizeG, lineG, bootG, slotAtG, capIF, capF, apartG, withinG, cap2F, memF_new, setM_, getM_, s1, s2, s3, s4, s5, s6, s7, s8, k1, k2, h1, h2, e, v, put, fillP, sub, List.take_succ_cons, List.take_zero, List.drop_zero, Int.toNat_one]
    rw [memH_app]
    exact cut_app (Nat.le_refl _) hc rfl hS
  · exact hS.elim
end Go.Proofs.Ythegocjfnjfkdaa

/- Law 09: HeapSizes, HeapNested. -/
namespace Go.Proofs.Ythegocjfnjfkdaa
open Go.D
set_option linter.all false
set_option maxRecDepth 100000
set_option maxHeartbeats 4000000

noncomputable def T9b : Tab := addT 25 awakeG T9
theorem T9b_snd : T9b.Snd Try.prog := addT_snd ok25 awake9_snd T9_snd

def heapSizesG : List V → List Blk → Res
  | [.agg [.i .i64 kk, .i .i64 bb, .i .i64 a, .i .i64 b, .i .i64 c, .i .i64 d, .i .i64 e, .i .i64 g, .i .i64 i, .i .i64 j, .i .i64 k, .i .i64 l, .i .i64 m, .i .i64 a2, .i .i64 b2, .i .i64 c2, .i .i64 d2, .i .i64 e2, .i .i64 g2, .i .i64 i2, .i .i64 j2, .i .i64 k2, .i .i64 l2, .i .i64 m2, .i .i64 ii]], h => .ok (.s (.b true)) [] h
  | _, _ => .bad
theorem heapSizes_snd : Snd Try.prog 7 (FSpec.of heapSizesG) := snd_run T9b_snd mixed Try.func7 dc7 400 fun args h K hc hS => by
  unfold heapSizesG at hS
  split at hS
  · simp only [spec_ok] at hS
    simp (config := { maxSteps := 10000000 }) only [EV1, EV2, EV3, EV4, EV5, EV6, addT, istep, pickR, putD, bin1R, un1R, slcR, bnd, capsOf, fillP, V.plain, V.cells, V.known, C.v, blk, setL, setH, eqS, eq1, cmpS, cmp1, isNil, popTo, killT, setT, leT, V.below, S.below, R.below, V.val, C.val, S.val, R.val, R.takes, vals, shows, unnamed, V.kill, V.names, C.names, S.names, R.names, List.set, List.replicate, ↓q_cond_t, ↓q_cond_f, if_true, if_false, reduceCtorEq, rvals, rvC, result, C.known, V.noL, C.noL, S.noL, R.noL, Option.map, true_and, and_true, ge_iff_le, gt_iff_lt, implies_true, q_ite_t, q_ite_f, beq_iff_eq, bne_iff_ne, q_ne, Nat.reduceAdd, Nat.reducePow, Int.reducePow, Nat.reduceMul, Nat.reduceSub, Nat.reduceLeDiff, Nat.reduceLT, Nat.reduceEqDiff, Int.reduceNeg, Int.reduceLT, Int.reduceLE, Int.reduceEq, Int.reduceNe, Int.reduceAdd, Int.reduceSub, Int.reduceMul, Int.reduceToNat, Int.reduceBEq, Int.reduceBNe, df7, T9b, T9, awakeG, hsizeG, lineG, bootG, slotAtG, capIF, capF, apartG, withinG, cap2F, put, fillP, sub, List.take_succ_cons, List.take_zero, List.drop_zero, List.drop_succ_cons]
    exact hS
  · exact hS.elim

/-! ### of any two objects one lies within the other, or they are apart -/
theorem right_pow {c : Cap} (h : rightB c = true) (hn : 0 < szN c) : ∃ k : Nat, szN c = 2 ^ k ∧ k ≤ 15 := by
  obtain ⟨t, o, b, d, e, g, i, j, k, l, m⟩ := c
  simp only [rightB] at h
  simp only [szN] at hn ⊢
  rcases kinds t with rfl | rfl | rfl | rfl | rfl | rfl | rfl | rfl | rfl | rfl | rfl | rfl | rfl | rfl | ⟨k0, k1, k2, k3, k4, k5, k6, k7, k8, k9, k10, k11, k12, k13, hx⟩
  case inr.inr.inr.inr.inr.inr.inr.inr.inr.inr.inr.inr.inr.inr => simp only [k0, k1, k2, k3, k4, k5, k6, k7, k8, k9, k10, k11, k12, k13, if_false] at hn; exact absurd hn (by decide)
  all_goals simp only [Int.reduceEq, if_true, if_false, ite_t, ite_f, not_or, Classical.not_not, nOk_iff, not_and] at h hn ⊢
  all_goals try exact absurd hn (by decide)
  case inr.inl =>
    have hb : 4 ≤ b ∧ b ≤ 15 := by have := h.1.1; simpa [Classical.not_imp] using this
    exact ⟨b.toNat, uRaw_eq hb, by omega⟩
  case inr.inr.inl =>
    have hb : 1 ≤ b ∧ b ≤ 8 := by have := h.1.1; simpa [Classical.not_imp] using this
    refine ⟨b.toNat + 2, ?_, by omega⟩
    rw [nRaw_eq hb, Int.pow_add, Int.mul_comm]; rfl
  case inr.inr.inr.inr.inr.inr.inr.inr.inr.inr.inl =>
    rcases zrange.1 h.1.1 with rfl | hb
    · exact ⟨6, rfl, by omega⟩
    · refine ⟨b.toNat + 2, ?_, by omega⟩
      rw [if_neg (by omega), nRaw_eq hb, Int.pow_add, Int.mul_comm]; rfl
  · exact ⟨6, rfl, by omega⟩
  · exact ⟨2, rfl, by omega⟩
  · exact ⟨3, rfl, by omega⟩
  · exact ⟨3, rfl, by omega⟩
  · exact ⟨3, rfl, by omega⟩
  · exact ⟨4, rfl, by omega⟩
  · exact ⟨6, rfl, by omega⟩

/-- An object: none, or a range that begins at a multiple of its size, a power of two. -/
theorem obj_facts (c : Cap) : wN c = 0 ∨ (∃ k : Nat, wN c = 2 ^ k ∧ k ≤ 15 ∧ c.obj % 2 ^ k = 0 ∧ 1024 ≤ c.obj ∧ c.obj + 2 ^ k ≤ 65536 ∧ IntKind.i64.wrap (c.obj + wN c) = c.obj + wN c ∧ 0 < wN c) := by
  unfold wN
  cases hr : rightB c with
  | false => left; simp
  | true =>
    simp only [if_true]
    by_cases h0 : szN c = 0
    · exact .inl h0
    · have h1 : 0 ≤ szN c := by
        have := (right_bounds hr).obj
        by_cases hx : 0 ≤ szN c
        · exact hx
        · exfalso
          obtain ⟨t, o, b, d, e, g, i, j, k, l, m⟩ := c
          simp only [rightB] at hr
          simp only [szN] at hx
          rcases kinds t with rfl | rfl | rfl | rfl | rfl | rfl | rfl | rfl | rfl | rfl | rfl | rfl | rfl | rfl | ⟨k0, k1, k2, k3, k4, k5, k6, k7, k8, k9, k10, k11, k12, k13, hy⟩
          case inr.inr.inr.inr.inr.inr.inr.inr.inr.inr.inr.inr.inr.inr => simp only [k0, k1, k2, k3, k4, k5, k6, k7, k8, k9, k10, k11, k12, k13, if_false] at hx; exact hx (by decide)
          all_goals simp only [Int.reduceEq, if_true, if_false, ite_t, ite_f, not_or, Classical.not_not, nOk_iff, not_and] at hr hx
          all_goals try exact hx (by decide)
          · have hb : 4 ≤ b ∧ b ≤ 15 := by have := hr.1.1; simpa [Classical.not_imp] using this
            have := uRaw_pos hb; omega
          · have hb : 1 ≤ b ∧ b ≤ 8 := by have := hr.1.1; simpa [Classical.not_imp] using this
            have := nRaw_pos hb; omega
          · rcases zrange.1 hr.1.1 with rfl | hb
            · exact hx (by decide)
            · rw [if_neg (by omega)] at hx; have := nRaw_pos hb; omega
      have h2 : 0 < szN c := by omega
      obtain ⟨k, e, hk⟩ := right_pow hr h2
      obtain ⟨z1, z2, z3⟩ := right_size hr h2
      right
      refine ⟨k, e, hk, ?_, z1, by rw [← e]; exact z2, wrap64 (by omega) (by omega), h2⟩
      rw [← e, ← Int.tmod_eq_emod_of_nonneg (by omega)]; exact z3

/-- The smaller of two ranges lies in the greater one, or apart. -/
theorem nest (x y : Int) (i j : Nat) (hij : i ≤ j) (hx : x % 2 ^ i = 0) (hy : y % 2 ^ j = 0) : (y ≤ x ∧ x + 2 ^ i ≤ y + 2 ^ j) ∨ x + 2 ^ i ≤ y ∨ y + 2 ^ j ≤ x := by
  obtain ⟨d, rfl⟩ : ∃ d, j = i + d := ⟨j - i, by omega⟩
  have hA : (0 : Int) < 2 ^ i := Int.pow_pos (by decide)
  have hD : (0 : Int) < 2 ^ d := Int.pow_pos (by decide)
  rw [Int.pow_add] at hy ⊢
  generalize (2 : Int) ^ i = A at *
  generalize (2 : Int) ^ d = D at *
  obtain ⟨p, rfl⟩ : ∃ p, x = A * p := Int.dvd_of_emod_eq_zero hx
  obtain ⟨q, rfl⟩ : ∃ q, y = A * D * q := Int.dvd_of_emod_eq_zero hy
  have h1 := Int.emod_nonneg p (Int.ne_of_gt hD)
  have h2 := Int.emod_lt_of_pos p hD
  have h3 := Int.mul_ediv_add_emod p D
  generalize p % D = r at *
  generalize p / D = s at *
  have e1 : A * p = A * D * s + A * r := by rw [← h3, Int.mul_add, Int.mul_assoc]
  have e2 : A * r + A ≤ A * D := by
    have := Int.mul_le_mul_of_nonneg_left (show r + 1 ≤ D by omega) (Int.le_of_lt hA)
    rw [Int.mul_add, Int.mul_one] at this; exact this
  have e3 : 0 ≤ A * r := Int.mul_nonneg (Int.le_of_lt hA) h1
  rw [e1]
  generalize A * r = w at *
  have hB : 0 < A * D := Int.mul_pos hA hD
  generalize A * D = B at *
  rcases Int.lt_trichotomy s q with h | h | h
  · right; left
    have := Int.mul_le_mul_of_nonneg_left (show s + 1 ≤ q by omega) (Int.le_of_lt hB)
    rw [Int.mul_add, Int.mul_one] at this; omega
  · subst h; left; omega
  · right; right
    have := Int.mul_le_mul_of_nonneg_left (show q + 1 ≤ s by omega) (Int.le_of_lt hB)
    rw [Int.mul_add, Int.mul_one] at this; omega

theorem apart_comm (a b : Cap) : apartB b a = apartB a b := by
  simp only [apartB]
  cases wN a == 0 <;> cases wN b == 0 <;> simp [Bool.or_comm]
theorem within_self (a : Cap) : withinB a a = decide (0 < wN a) := by
  simp [withinB]
theorem apart_not {a b : Cap} (h : apartB a b = true) : withinB a b = false := by
  rw [Bool.eq_false_iff]
  intro hw
  simp only [withinB, Bool.and_eq_true, decide_eq_true_eq] at hw
  simp only [apartB, Bool.or_eq_true, beq_iff_eq, decide_eq_true_eq] at h
  rcases obj_facts a with ha | ⟨i, a1, a2, a3, a4, a5, a6, a7⟩
  · omega
  rcases obj_facts b with hb | ⟨j, b1, b2, b3, b4, b5, b6, b7⟩
  · omega
  rw [a6, b6] at hw h
  omega
theorem within_trans {a b c : Cap} (h : withinB a b = true) (k : withinB b c = true) : withinB a c = true := by
  simp only [withinB, Bool.and_eq_true, decide_eq_true_eq] at *
  omega
theorem nested (a b : Cap) : wN a = 0 ∨ wN b = 0 ∨ apartB a b = true ∨ withinB a b = true ∨ withinB b a = true := by
  rcases obj_facts a with ha | ⟨i, a1, a2, a3, a4, a5, a6, a7⟩
  · exact .inl ha
  rcases obj_facts b with hb | ⟨j, b1, b2, b3, b4, b5, b6, b7⟩
  · exact .inr (.inl hb)
  right; right
  simp only [apartB, withinB, Bool.and_eq_true, Bool.or_eq_true, beq_iff_eq, decide_eq_true_eq]
  rw [a6, b6]
  rcases Nat.le_total i j with hij | hij
  · have := nest a.obj b.obj i j hij a3 b3
    rw [← a1, ← b1] at this
    omega
  · have := nest b.obj a.obj j i hij b3 a3
    rw [← a1, ← b1] at this
    omega

def cap3F (f : Cap → Cap → Cap → Res) : List V → Res
  | [x, y, z] => capF (fun c => capF (fun d => capF (fun e => f c d e) [z]) [y]) [x]
  | _ => .bad
theorem cap3F_spec {f : Cap → Cap → Cap → Res} {args : List V} {K : V → List Blk → Prop} (h : (cap3F f args).spec K) : ∃ c d e : Cap, args = [.agg c.cl, .agg d.cl, .agg e.cl] ∧ (f c d e).spec K := by
  unfold cap3F at h
  split at h
  · obtain ⟨c, e1, h⟩ := capF_spec h
    obtain ⟨d, e2, h⟩ := capF_spec h
    obtain ⟨e, e3, h⟩ := capF_spec h
    simp only [List.cons.injEq, and_true] at e1 e2 e3
    subst e1; subst e2; subst e3
    exact ⟨c, d, e, rfl, h⟩
  · exact h.elim
def heapNestedG (args : List V) (h : List Blk) : Res := cap3F (fun _ _ _ => .ok (.s (.b true)) [] h) args
theorem heapNested_snd : Snd Try.prog 9 (FSpec.of heapNestedG) := snd_run T9b_snd mixed Try.func9 dc9 400 fun args h K hc hS => by
  obtain ⟨a, b, c, rfl, hR⟩ := cap3F_spec hS
  clear hS
  simp only [spec_ok] at hR
  simp only [Cap.cl]
  simp (config := { maxSteps := 10000000 }) only [EV1, EV2, EV3, EV4, EV5, EV6, addT, istep, pickR, putD, bin1R, un1R, slcR, bnd, capsOf, fillP, V.plain, V.cells, V.known, C.v, blk, setL, setH, eqS, eq1, cmpS, cmp1, isNil, popTo, killT, setT, leT, V.below, S.below, R.below, V.val, C.val, S.val, R.val, R.takes, vals, shows, unnamed, V.kill, V.names, C.names, S.names, R.names, List.set, List.replicate, ↓q_cond_t, ↓q_cond_f, if_true, if_false, reduceCtorEq, rvals, rvC, result, C.known, V.noL, C.noL, S.noL, R.noL, Option.map, true_and, and_true, ge_iff_le, gt_iff_lt, implies_true, q_ite_t, q_ite_f, beq_iff_eq, bne_iff_ne, q_ne, Nat.reduceAdd, Nat.reducePow, Int.reducePow, Nat.reduceMul, Nat.reduceSub, Nat.reduceLeDiff, Nat.reduceLT, Nat.reduceEqDiff, Int.reduceNeg, Int.reduceLT, Int.reduceLE, Int.reduceEq, Int.reduceNe, Int.reduceAdd, Int.reduceSub, Int.reduceMul, Int.reduceToNat, Int.reduceBEq, Int.reduceBNe, df9, T9b, T9, awakeG, wordG, capF, apartG, withinG, cap2F, cap_eta, put, fillP, sub, List.take_succ_cons, List.take_zero, List.drop_zero, List.drop_succ_cons]
  have h3 := @apart_not a b
  have h4 : apartB a b = true → withinB b a = false := fun e => apart_not (by rw [apart_comm]; exact e)
  have h5 := @within_trans a b c
  have h6 := nested a b
  have h7 : (bif apartB a b then withinB a b || (withinB b a || withinB a b && (withinB b c && !withinB a c)) else withinB a b && (withinB b c && !withinB a c)) = false := by
    cases e1 : apartB a b
    · simp only [cond_false]
      cases e2 : withinB a b
      · rfl
      · cases e3 : withinB b c
        · rfl
        · rw [h5 e2 e3]; rfl
    · rw [h3 e1, h4 e1]; rfl
  rw [h7, apart_comm, within_self]
  refine ⟨fun x => ?_, fun _ => ?_⟩
  · exfalso; rcases x with x | x | x
    · exact x rfl
    · exact x rfl
    · cases x
  · refine cast (congrArg (fun x => K (.s (.b x)) h) ?_) hR
    rw [eq_comm]
    simp only [Bool.or_eq_true, beq_iff_eq]
    rw [apart_comm a b]; exact h6
end Go.Proofs.Ythegocjfnjfkdaa

/- Law 09: HeapSlots. -/
namespace Go.Proofs.Ythegocjfnjfkdaa
open Go.D
set_option linter.all false
set_option maxRecDepth 100000
set_option maxHeartbeats 4000000

/-- An object's slots: how many, and that they lie within its words. -/
theorem slots_facts (c : Cap) : ∃ N : Nat, slotsN c = N ∧ N ≤ 256 ∧ (rightB c = false → N = 0) ∧ (0 < N → rightB c = true ∧ 1024 ≤ c.obj ∧ c.obj + wN c ≤ 65536 ∧ 4 * N ≤ wN c) ∧
    (rightB c = true → (c.ty = 2 ∨ c.ty = 10 ∧ ¬ c.bits = 31) → 4 * (N : Int) = wN c) := by
  cases hr : rightB c with
  | false => exact ⟨0, by simp [slotsN, hr], by omega, fun _ => rfl, fun h => absurd h (by omega), fun h => by cases h⟩
  | true =>
    have hz := @right_size c hr
    have ew : wN c = szN c := by simp [wN, hr]
    rw [ew]
    have key : (∃ N : Nat, slotsN c = N ∧ N ≤ 256 ∧ (0 < N → 0 < szN c ∧ 4 * (N : Int) ≤ szN c) ∧ ((c.ty = 2 ∨ c.ty = 10 ∧ ¬ c.bits = 31) → 4 * (N : Int) = szN c)) := by
      obtain ⟨t, o, b, d, e, g, i, j, k, l, m⟩ := c
      have sh : ∀ b : Int, 1 ≤ b ∧ b ≤ 8 → ∃ N : Nat, IntKind.i64.wrap (1 * 2 ^ min b.toNat IntKind.i64.bits) = N ∧ N ≤ 256 ∧ 4 * (N : Int) = nRaw b := fun b hb => by
        have : b = 1 ∨ b = 2 ∨ b = 3 ∨ b = 4 ∨ b = 5 ∨ b = 6 ∨ b = 7 ∨ b = 8 := by omega
        rcases this with rfl | rfl | rfl | rfl | rfl | rfl | rfl | rfl
        · exact ⟨2, by decide, by omega, by decide⟩
        · exact ⟨4, by decide, by omega, by decide⟩
        · exact ⟨8, by decide, by omega, by decide⟩
        · exact ⟨16, by decide, by omega, by decide⟩
        · exact ⟨32, by decide, by omega, by decide⟩
        · exact ⟨64, by decide, by omega, by decide⟩
        · exact ⟨128, by decide, by omega, by decide⟩
        · exact ⟨256, by decide, by omega, by decide⟩
      simp only [slotsN, hr, if_true, szN]
      simp only [rightB] at hr
      rcases kinds3 t with rfl | rfl | rfl | ⟨k1, k2, k3⟩
      · simp only [Int.reduceEq, if_true, if_false]
        exact ⟨3, rfl, by omega, by omega, fun h => by simp at h⟩
      · simp only [Int.reduceEq, if_true, if_false, ite_t, ite_f, not_or, Classical.not_not, nOk_iff, not_and] at hr ⊢
        rcases zrange.1 hr.1.1 with rfl | hb
        · simp only [if_true]
          exact ⟨3, rfl, by omega, by omega, fun h => by simp at h⟩
        · rw [if_neg (by omega), if_neg (by omega)]
          obtain ⟨N, e1, e2, e3⟩ := sh b hb
          exact ⟨N, e1, e2, by omega, by omega⟩
      · simp only [Int.reduceEq, if_true, if_false, ite_t, ite_f, not_or, Classical.not_not, nOk_iff, not_and] at hr ⊢
        have hb : 1 ≤ b ∧ b ≤ 8 := by have := hr.1.1; simpa [Classical.not_imp] using this
        obtain ⟨N, e1, e2, e3⟩ := sh b hb
        exact ⟨N, e1, e2, by omega, by omega⟩
      · simp only [k1, k2, k3, if_false]
        exact ⟨0, rfl, by omega, by omega, fun h => by simp at h⟩
    obtain ⟨N, k1, k2, k3, k4⟩ := key
    refine ⟨N, k1, k2, fun h => (by cases h), fun h => ?_, fun _ => k4⟩
    obtain ⟨k5, k6⟩ := k3 h
    obtain ⟨z1, z2, _⟩ := hz k5
    exact ⟨rfl, z1, z2, k6⟩

def heapSlotsG (args : List V) (h : List Blk) : Res := capF (fun _ => .ok (.s (.b true)) [] h) args
theorem heapSlots_snd : Snd Try.prog 8 (FSpec.of heapSlotsG) := snd_run T9b_snd mixed Try.func8 dc8 400 fun args h K hc hS => by
  obtain ⟨c, rfl, hR⟩ := capF_spec hS
  clear hS
  simp only [spec_ok] at hR
  obtain ⟨N, f1, f2, f3, f4, f5⟩ := slots_facts c
  have ob := obj_facts c
  simp only [Cap.cl]
  simp (config := { maxSteps := 10000000 }) only [EV1, EV2, EV3, EV4, EV5, EV6, addT, istep, pickR, putD, bin1R, un1R, slcR, bnd, capsOf, fillP, V.plain, V.cells, V.known, C.v, blk, setL, setH, eqS, eq1, cmpS, cmp1, isNil, popTo, killT, setT, leT, V.below, S.below, R.below, V.val, C.val, S.val, R.val, R.takes, vals, shows, unnamed, V.kill, V.names, C.names, S.names, R.names, List.set, List.replicate, ↓q_cond_t, ↓q_cond_f, if_true, if_false, reduceCtorEq, rvals, rvC, result, C.known, V.noL, C.noL, S.noL, R.noL, Option.map, true_and, and_true, ge_iff_le, gt_iff_lt, implies_true, q_ite_t, q_ite_f, beq_iff_eq, bne_iff_ne, q_ne, Nat.reduceAdd, Nat.reducePow, Int.reducePow, Nat.reduceMul, Nat.reduceSub, Nat.reduceLeDiff, Nat.reduceLT, Nat.reduceEqDiff, Int.reduceNeg, Int.reduceLT, Int.reduceLE, Int.reduceEq, Int.reduceNe, Int.reduceAdd, Int.reduceSub, Int.reduceMul, Int.reduceToNat, Int.reduceBEq, Int.reduceBNe, df8, T9b, T9, awakeG, rightG, wordG, capF, cap_eta, put, fillP, sub, List.take_succ_cons, List.take_zero, List.drop_zero, List.drop_succ_cons]
  refine loop_rule (α := Nat) [2, 6, 7, 8, 17, 18, 19, 20, 21, 22, 23, 24, 25, 26, 27, 28, 29, 30, 31, 32, 33, 34, 35, 36, 37, 38, 39, 40, 41, 42, 43, 44, 45, 46, 47] (fun q => [(6, .s (.i .i64 q)), (7, .s (.i .i64 q))]) (fun _ => [⟨.rw, c.cl, 11⟩]) (fun _ => h) (fun q => q ≤ N) (fun q => N - q) 0 (by omega) ?_ ?_
  · refine Wk.same rfl rfl ?_
    simp (config := { maxSteps := 10000000 }) only [EV1, EV2, EV3, EV4, EV5, EV6, addT, istep, pickR, putD, bin1R, un1R, slcR, bnd, capsOf, fillP, V.plain, V.cells, V.known, C.v, blk, setL, setH, eqS, eq1, cmpS, cmp1, isNil, popTo, killT, setT, leT, V.below, S.below, R.below, V.val, C.val, S.val, R.val, R.takes, vals, shows, unnamed, V.kill, V.names, C.names, S.names, R.names, List.set, List.replicate, ↓q_cond_t, ↓q_cond_f, if_true, if_false, reduceCtorEq, rvals, rvC, result, C.known, V.noL, C.noL, S.noL, R.noL, Option.map, true_and, and_true, ge_iff_le, gt_iff_lt, implies_true, q_ite_t, q_ite_f, beq_iff_eq, bne_iff_ne, q_ne, Nat.reduceAdd, Nat.reducePow, Int.reducePow, Nat.reduceMul, Nat.reduceSub, Nat.reduceLeDiff, Nat.reduceLT, Nat.reduceEqDiff, Int.reduceNeg, Int.reduceLT, Int.reduceLE, Int.reduceEq, Int.reduceNe, Int.reduceAdd, Int.reduceSub, Int.reduceMul, Int.reduceToNat, Int.reduceBEq, Int.reduceBNe, q_cast, Int.natCast_zero]
  · rintro X q hq IH
    have c1 : (q : Int) ≤ 256 := by omega
    rcases Nat.lt_or_ge q N with h1 | h1
    · obtain ⟨g1, g2, g3, g4⟩ := f4 (by omega)
      have c2 : slotAtV c q = c.obj + 4 * q := by
        rw [slotAtV, f1, if_pos (by omega), wrap64 (n := 4 * (q : Int)) (by omega) (by omega), wrap64 (by omega) (by omega)]
      have c3 : ¬ (c.obj + 4 * (q : Int) = 0) := by omega
      have w1 : IntKind.i64.wrap (4 * (q : Int)) = 4 * q := wrap64 (by omega) (by omega)
      have w2 : IntKind.i64.wrap (c.obj + 4 * (q : Int)) = c.obj + 4 * q := wrap64 (by omega) (by omega)
      have w3 : IntKind.i64.wrap (c.obj + 4 * (q : Int) + 4) = c.obj + 4 * q + 4 := wrap64 (by omega) (by omega)
      have w4 : IntKind.i64.wrap (c.obj + wN c) = c.obj + wN c := wrap64 (by omega) (by omega)
      have w5 : IntKind.i64.wrap ((q : Int) + 1) = ((q + 1 : Nat) : Int) := by rw [wrap64] <;> omega
      have c4 : ¬ (c.obj + 4 * (q : Int) < 1024) := by omega
      have c5 : ¬ (c.obj + wN c < c.obj + 4 * (q : Int) + 4) := by omega
      refine run_sound (Tab.ok_Γ _) 200 _ _ _ _ ?_
      simp (config := { maxSteps := 10000000 }) only [EV1, EV2, EV3, EV4, EV5, EV6, addT, istep, pickR, putD, bin1R, un1R, slcR, bnd, capsOf, fillP, V.plain, V.cells, V.known, C.v, blk, setL, setH, eqS, eq1, cmpS, cmp1, isNil, popTo, killT, setT, leT, V.below, S.below, R.below, V.val, C.val, S.val, R.val, R.takes, vals, shows, unnamed, V.kill, V.names, C.names, S.names, R.names, List.set, List.replicate, ↓q_cond_t, ↓q_cond_f, if_true, if_false, reduceCtorEq, rvals, rvC, result, C.known, V.noL, C.noL, S.noL, R.noL, Option.map, true_and, and_true, ge_iff_le, gt_iff_lt, implies_true, q_ite_t, q_ite_f, beq_iff_eq, bne_iff_ne, q_ne, Nat.reduceAdd, Nat.reducePow, Int.reducePow, Nat.reduceMul, Nat.reduceSub, Nat.reduceLeDiff, Nat.reduceLT, Nat.reduceEqDiff, Int.reduceNeg, Int.reduceLT, Int.reduceLE, Int.reduceEq, Int.reduceNe, Int.reduceAdd, Int.reduceSub, Int.reduceMul, Int.reduceToNat, Int.reduceBEq, Int.reduceBNe, T9b, T9, slotAtG, capIF, capF, cap_eta, Cap.cl, sub, List.take_succ_cons, List.take_zero, List.drop_zero, List.drop_succ_cons, c1, c2, c3, c4, c5, w1, w2, w3, w4, w5]
      exact IH (q + 1) _ (by omega) (by omega) (Wk.same rfl rfl (by simp (config := { maxSteps := 10000000 }) only [EV1, EV2, EV3, EV4, EV5, EV6, addT, istep, pickR, putD, bin1R, un1R, slcR, bnd, capsOf, fillP, V.plain, V.cells, V.known, C.v, blk, setL, setH, eqS, eq1, cmpS, cmp1, isNil, popTo, killT, setT, leT, V.below, S.below, R.below, V.val, C.val, S.val, R.val, R.takes, vals, shows, unnamed, V.kill, V.names, C.names, S.names, R.names, List.set, List.replicate, ↓q_cond_t, ↓q_cond_f, if_true, if_false, reduceCtorEq, rvals, rvC, result, C.known, V.noL, C.noL, S.noL, R.noL, Option.map, true_and, and_true, ge_iff_le, gt_iff_lt, implies_true, q_ite_t, q_ite_f, beq_iff_eq, bne_iff_ne, q_ne, Nat.reduceAdd, Nat.reducePow, Int.reducePow, Nat.reduceMul, Nat.reduceSub, Nat.reduceLeDiff, Nat.reduceLT, Nat.reduceEqDiff, Int.reduceNeg, Int.reduceLT, Int.reduceLE, Int.reduceEq, Int.reduceNe, Int.reduceAdd, Int.reduceSub, Int.reduceMul, Int.reduceToNat, Int.reduceBEq, Int.reduceBNe]))
    · have : q = N := by omega
      subst this
      have c2 : slotAtV c q = 0 := by rw [slotAtV, f1, if_neg (by omega)]
      have c3 : slotAtV c (-1) = 0 := by rw [slotAtV, if_neg (by omega)]
      have c4 : rightB c = false → ¬ (0 < (q : Int)) := fun e => by have := f3 e; omega
      have w1 : IntKind.i64.wrap (4 * (q : Int)) = 4 * q := wrap64 (by omega) (by omega)
      have c5 : rightB c = true → (c.ty = 2 ∨ c.ty = 10 ∧ ¬ c.bits = 31) → (4 * (q : Int) == wN c) = true := fun e1 e2 => by rw [beq_iff_eq]; exact f5 e1 e2
      refine run_sound (Tab.ok_Γ _) 200 _ _ _ _ ?_
      simp (config := { maxSteps := 10000000 }) only [EV1, EV2, EV3, EV4, EV5, EV6, addT, istep, pickR, putD, bin1R, un1R, slcR, bnd, capsOf, fillP, V.plain, V.cells, V.known, C.v, blk, setL, setH, eqS, eq1, cmpS, cmp1, isNil, popTo, killT, setT, leT, V.below, S.below, R.below, V.val, C.val, S.val, R.val, R.takes, vals, shows, unnamed, V.kill, V.names, C.names, S.names, R.names, List.set, List.replicate, ↓q_cond_t, ↓q_cond_f, if_true, if_false, reduceCtorEq, rvals, rvC, result, C.known, V.noL, C.noL, S.noL, R.noL, Option.map, true_and, and_true, ge_iff_le, gt_iff_lt, implies_true, q_ite_t, q_ite_f, beq_iff_eq, bne_iff_ne, q_ne, Nat.reduceAdd, Nat.reducePow, Int.reducePow, Nat.reduceMul, Nat.reduceSub, Nat.reduceLeDiff, Nat.reduceLT, Nat.reduceEqDiff, Int.reduceNeg, Int.reduceLT, Int.reduceLE, Int.reduceEq, Int.reduceNe, Int.reduceAdd, Int.reduceSub, Int.reduceMul, Int.reduceToNat, Int.reduceBEq, Int.reduceBNe, T9b, T9, slotAtG, capIF, capF, cap_eta, Cap.cl, sub, List.take_succ_cons, List.take_zero, List.drop_zero, List.drop_succ_cons, c1, c2, c3, w1]
      refine ⟨fun x => absurd x.2 (c4 (by simpa using x.1)), fun _ => ?_⟩
      refine cast (congrArg (fun x => K (.s (.b x)) h) ?_) hR
      rw [eq_comm]
      simp only [Bool.or_eq_true, Bool.not_eq_true', Bool.or_eq_false_iff, Bool.and_eq_false_iff, beq_eq_false_iff_ne, bne_eq_false_iff_eq]
      by_cases e1 : rightB c = true
      · by_cases e2 : c.ty = 2 ∨ c.ty = 10 ∧ ¬ c.bits = 31
        · exact .inr (.inr (c5 e1 e2))
        · refine .inr (.inl ?_)
          constructor
          · omega
          · by_cases e3 : c.ty = 10
            · right; exact Classical.byContradiction fun e4 => e2 (.inr ⟨e3, e4⟩)
            · exact .inl e3
      · exact .inl (by simpa using e1)
end Go.Proofs.Ythegocjfnjfkdaa

/- Law 09: HeapOnce. -/
namespace Go.Proofs.Ythegocjfnjfkdaa
open Go.D
set_option linter.all false
set_option maxRecDepth 100000
set_option maxHeartbeats 4000000

def kv (i : Nat) : Int := if i < 16 then 64 + 4 * (i : Int) else 32 + 4 * ((i : Int) - 16)
def kc (q : Nat) : List S := (List.range q).map fun i => .i .i64 (kv i)
theorem kc_len (q : Nat) : (kc q).length = q := by simp [kc]
theorem kc_succ (q : Nat) : kc q ++ [.i .i64 (kv q)] = kc (q + 1) := by simp [kc, List.range_succ]
theorem kc_get {q i : Nat} (h : i < q) : (kc q)[i]? = some (.i .i64 (kv i)) := by simp [kc, h]
theorem kc_all {p : S → Bool} (hp : ∀ x, p (.i .i64 x) = true) (q : Nat) : (kc q).all p = true := by simp [kc, hp]
theorem kc_below (n q : Nat) : (kc q).all (S.below n) = true := kc_all (fun _ => rfl) q
theorem kc_known (q : Nat) : known (kc q) = true := by unfold known; exact kc_all (fun _ => rfl) q
theorem kc_one : kc 1 = [.i .i64 64] := rfl
theorem kv_line {q : Nat} (h : q < 16) : lineV q = kv q := by rw [lineV, kv, if_pos h, if_pos (by omega)]
theorem kv_boot {q : Nat} (h : q < 8) : bootV q = kv (16 + q) := by
  rw [bootV, kv, if_pos (by omega), if_neg (by omega)]; omega
theorem kv_ok (i : Nat) (h : i < 24) : 4 ≤ kv i ∧ kv i + 4 ≤ 1024 ∧ (kv i).tmod 4 = 0 ∧ ∀ k, k < i → ¬ kv i = kv k := by
  have h1 : 4 ≤ kv i ∧ kv i + 4 ≤ 1024 ∧ kv i % 4 = 0 := by unfold kv; split <;> omega
  refine ⟨h1.1, h1.2.1, ?_, fun k hk => ?_⟩
  · rw [Int.tmod_eq_emod_of_nonneg (by omega)]; exact h1.2.2
  · unfold kv; split <;> split <;> omega

def kL (A B : List S) (c : Nat) : Nat → List Blk
  | 0 => [⟨.rw, A, 11⟩, ⟨.rw, B, 11⟩]
  | q + 1 => [⟨.rw, A, 11⟩, ⟨.rw, B, 11⟩, ⟨.rw, [.i .i64 64], 1⟩, ⟨.rw, kc (q + 1), c⟩]
def kT (c : Nat) : Nat → V
  | 0 => .s .ns
  | q + 1 => .s (.sl (.l 3) 0 (q + 1) c)

def heapOnceG (args : List V) (h : List Blk) : Res := cap2F (fun _ _ => .ok (.s (.b true)) [] h) args
theorem heapOnce_snd : Snd Try.prog 10 (FSpec.of heapOnceG) := snd_run T9b_snd mixed Try.func10 dc10 400 fun args h K hc hS => by
  obtain ⟨a, b, rfl, hR⟩ := cap2F_spec hS
  clear hS
  simp only [spec_ok] at hR
  simp only [Cap.cl]
  simp (config := { maxSteps := 10000000 }) only [EV1, EV2, EV3, EV4, EV5, EV6, addT, istep, pickR, putD, bin1R, un1R, slcR, bnd, capsOf, fillP, V.plain, V.cells, V.known, C.v, blk, setL, setH, eqS, eq1, cmpS, cmp1, isNil, popTo, killT, setT, leT, V.below, S.below, R.below, V.val, C.val, S.val, R.val, R.takes, vals, shows, unnamed, V.kill, V.names, C.names, S.names, R.names, List.set, List.replicate, ↓q_cond_t, ↓q_cond_f, if_true, if_false, reduceCtorEq, rvals, rvC, result, C.known, V.noL, C.noL, S.noL, R.noL, Option.map, true_and, and_true, ge_iff_le, gt_iff_lt, implies_true, q_ite_t, q_ite_f, beq_iff_eq, bne_iff_ne, q_ne, Nat.reduceAdd, Nat.reducePow, Int.reducePow, Nat.reduceMul, Nat.reduceSub, Nat.reduceLeDiff, Nat.reduceLT, Nat.reduceEqDiff, Int.reduceNeg, Int.reduceLT, Int.reduceLE, Int.reduceEq, Int.reduceNe, Int.reduceAdd, Int.reduceSub, Int.reduceMul, Int.reduceToNat, Int.reduceBEq, Int.reduceBNe, df10, T9b, T9, awakeG, apartG, cap2F, capF, cap_eta, put, fillP, sub, List.take_succ_cons, List.take_zero, List.drop_zero, List.drop_succ_cons]
  refine loop_rule (α := Nat × Nat) [7, 8, 20, 21, 22, 23, 24, 25, 26, 27, 28] (fun q => [(7, kT q.2 q.1), (8, .s (.i .i64 q.1))]) (fun q => kL a.cl b.cl q.2 q.1) (fun _ => h) (fun q => q.1 ≤ 16 ∧ q.1 ≤ q.2) (fun q => 16 - q.1) (0, 0) (by omega) ?_ ?_
  · refine Wk.same rfl rfl ?_
    simp (config := { maxSteps := 10000000 }) only [EV1, EV2, EV3, EV4, EV5, EV6, addT, istep, pickR, putD, bin1R, un1R, slcR, bnd, capsOf, fillP, V.plain, V.cells, V.known, C.v, blk, setL, setH, eqS, eq1, cmpS, cmp1, isNil, popTo, killT, setT, leT, V.below, S.below, R.below, V.val, C.val, S.val, R.val, R.takes, vals, shows, unnamed, V.kill, V.names, C.names, S.names, R.names, List.set, List.replicate, ↓q_cond_t, ↓q_cond_f, if_true, if_false, reduceCtorEq, rvals, rvC, result, C.known, V.noL, C.noL, S.noL, R.noL, Option.map, true_and, and_true, ge_iff_le, gt_iff_lt, implies_true, q_ite_t, q_ite_f, beq_iff_eq, bne_iff_ne, q_ne, Nat.reduceAdd, Nat.reducePow, Int.reducePow, Nat.reduceMul, Nat.reduceSub, Nat.reduceLeDiff, Nat.reduceLT, Nat.reduceEqDiff, Int.reduceNeg, Int.reduceLT, Int.reduceLE, Int.reduceEq, Int.reduceNe, Int.reduceAdd, Int.reduceSub, Int.reduceMul, Int.reduceToNat, Int.reduceBEq, Int.reduceBNe, q_cast, Int.natCast_zero, kT]
  · rintro X ⟨q, c⟩ ⟨hq, hqc⟩ IH
    simp only at hq hqc IH ⊢
    rcases Nat.lt_or_ge q 16 with h1 | h1
    · have c1 : (q : Int) < 16 := by omega
      have w1 : IntKind.i64.wrap ((q : Int) + 1) = ((q + 1 : Nat) : Int) := by rw [wrap64] <;> omega
      have l1 := kv_line h1
      rcases q with _ | q
      · simp only [kT, kL]
        have l0 : lineV 0 = 64 := by decide
        have w0 : IntKind.i64.wrap 1 = 1 := by decide
        refine run_sound (Tab.ok_Γ _) 200 _ _ _ _ ?_
        simp (config := { maxSteps := 10000000 }) only [EV1, EV2, EV3, EV4, EV5, EV6, addT, istep, pickR, putD, bin1R, un1R, slcR, bnd, capsOf, fillP, V.plain, V.cells, V.known, C.v, blk, setL, setH, eqS, eq1, cmpS, cmp1, isNil, popTo, killT, setT, leT, V.below, S.below, R.below, V.val, C.val, S.val, R.val, R.takes, vals, shows, unnamed, V.kill, V.names, C.names, S.names, R.names, List.set, List.replicate, ↓q_cond_t, ↓q_cond_f, if_true, if_false, reduceCtorEq, rvals, rvC, result, C.known, V.noL, C.noL, S.noL, R.noL, Option.map, true_and, and_true, ge_iff_le, gt_iff_lt, implies_true, q_ite_t, q_ite_f, beq_iff_eq, bne_iff_ne, q_ne, Nat.reduceAdd, Nat.reducePow, Int.reducePow, Nat.reduceMul, Nat.reduceSub, Nat.reduceLeDiff, Nat.reduceLT, Nat.reduceEqDiff, Int.reduceNeg, Int.reduceLT, Int.reduceLE, Int.reduceEq, Int.reduceNe, Int.reduceAdd, Int.reduceSub, Int.reduceMul, Int.reduceToNat, Int.reduceBEq, Int.reduceBNe, T9b, T9, lineG, c1, l0, w0, put, fillP, sub, List.take_succ_cons, List.take_zero, List.drop_zero, List.drop_succ_cons]
        intro c hc1
        exact IH (1, c) _ (by omega) (by omega) (Wk.same rfl rfl (by simp (config := { maxSteps := 10000000 }) only [EV1, EV2, EV3, EV4, EV5, EV6, addT, istep, pickR, putD, bin1R, un1R, slcR, bnd, capsOf, fillP, V.plain, V.cells, V.known, C.v, blk, setL, setH, eqS, eq1, cmpS, cmp1, isNil, popTo, killT, setT, leT, V.below, S.below, R.below, V.val, C.val, S.val, R.val, R.takes, vals, shows, unnamed, V.kill, V.names, C.names, S.names, R.names, List.set, List.replicate, ↓q_cond_t, ↓q_cond_f, if_true, if_false, reduceCtorEq, rvals, rvC, result, C.known, V.noL, C.noL, S.noL, R.noL, Option.map, true_and, and_true, ge_iff_le, gt_iff_lt, implies_true, q_ite_t, q_ite_f, beq_iff_eq, bne_iff_ne, q_ne, Nat.reduceAdd, Nat.reducePow, Int.reducePow, Nat.reduceMul, Nat.reduceSub, Nat.reduceLeDiff, Nat.reduceLT, Nat.reduceEqDiff, Int.reduceNeg, Int.reduceLT, Int.reduceLE, Int.reduceEq, Int.reduceNe, Int.reduceAdd, Int.reduceSub, Int.reduceMul, Int.reduceToNat, Int.reduceBEq, Int.reduceBNe, kT, q_cast, Int.natCast_one]))
      · simp only [kT, kL]
        have p1 : ((q + 1 + 1) * 8 ≤ 140737488355328) := by omega
        refine run_sound (Tab.ok_Γ _) 200 _ _ _ _ ?_
        simp (config := { maxSteps := 10000000 }) only [EV1, EV2, EV3, EV4, EV5, EV6, addT, istep, pickR, putD, bin1R, un1R, slcR, bnd, capsOf, fillP, V.plain, V.cells, V.known, C.v, blk, setL, setH, eqS, eq1, cmpS, cmp1, isNil, popTo, killT, setT, leT, V.below, S.below, R.below, V.val, C.val, S.val, R.val, R.takes, vals, shows, unnamed, V.kill, V.names, C.names, S.names, R.names, List.set, List.replicate, ↓q_cond_t, ↓q_cond_f, if_true, if_false, reduceCtorEq, rvals, rvC, result, C.known, V.noL, C.noL, S.noL, R.noL, Option.map, true_and, and_true, ge_iff_le, gt_iff_lt, implies_true, q_ite_t, q_ite_f, beq_iff_eq, bne_iff_ne, q_ne, Nat.reduceAdd, Nat.reducePow, Int.reducePow, Nat.reduceMul, Nat.reduceSub, Nat.reduceLeDiff, Nat.reduceLT, Nat.reduceEqDiff, Int.reduceNeg, Int.reduceLT, Int.reduceLE, Int.reduceEq, Int.reduceNe, Int.reduceAdd, Int.reduceSub, Int.reduceMul, Int.reduceToNat, Int.reduceBEq, Int.reduceBNe, T9b, T9, lineG, c1, l1, w1, put, fillP, sub, List.take_succ_cons, List.take_zero, List.drop_zero, List.drop_succ_cons, kc_known, kc_len, kc_all, kc_succ, p1, Cap.cl, List.any_cons, List.any_nil]
        intro c' hc'
        exact IH (q + 1 + 1, c') _ (by simp only; omega) (by simp only; omega) (Wk.keep 4 rfl rfl (by simp (config := { maxSteps := 10000000 }) only [EV1, EV2, EV3, EV4, EV5, EV6, addT, istep, pickR, putD, bin1R, un1R, slcR, bnd, capsOf, fillP, V.plain, V.cells, V.known, C.v, blk, setL, setH, eqS, eq1, cmpS, cmp1, isNil, popTo, killT, setT, leT, V.below, S.below, R.below, V.val, C.val, S.val, R.val, R.takes, vals, shows, unnamed, V.kill, V.names, C.names, S.names, R.names, List.set, List.replicate, ↓q_cond_t, ↓q_cond_f, if_true, if_false, reduceCtorEq, rvals, rvC, result, C.known, V.noL, C.noL, S.noL, R.noL, Option.map, true_and, and_true, ge_iff_le, gt_iff_lt, implies_true, q_ite_t, q_ite_f, beq_iff_eq, bne_iff_ne, q_ne, Nat.reduceAdd, Nat.reducePow, Int.reducePow, Nat.reduceMul, Nat.reduceSub, Nat.reduceLeDiff, Nat.reduceLT, Nat.reduceEqDiff, Int.reduceNeg, Int.reduceLT, Int.reduceLE, Int.reduceEq, Int.reduceNe, Int.reduceAdd, Int.reduceSub, Int.reduceMul, Int.reduceToNat, Int.reduceBEq, Int.reduceBNe, kT, List.any_cons, List.any_nil]) (by simp (config := { maxSteps := 10000000 }) only [EV1, EV2, EV3, EV4, EV5, EV6, addT, istep, pickR, putD, bin1R, un1R, slcR, bnd, capsOf, fillP, V.plain, V.cells, V.known, C.v, blk, setL, setH, eqS, eq1, cmpS, cmp1, isNil, popTo, killT, setT, leT, V.below, S.below, R.below, V.val, C.val, S.val, R.val, R.takes, vals, shows, unnamed, V.kill, V.names, C.names, S.names, R.names, List.set, List.replicate, ↓q_cond_t, ↓q_cond_f, if_true, if_false, reduceCtorEq, rvals, rvC, result, C.known, V.noL, C.noL, S.noL, R.noL, Option.map, true_and, and_true, ge_iff_le, gt_iff_lt, implies_true, q_ite_t, q_ite_f, beq_iff_eq, bne_iff_ne, q_ne, Nat.reduceAdd, Nat.reducePow, Int.reducePow, Nat.reduceMul, Nat.reduceSub, Nat.reduceLeDiff, Nat.reduceLT, Nat.reduceEqDiff, Int.reduceNeg, Int.reduceLT, Int.reduceLE, Int.reduceEq, Int.reduceNe, Int.reduceAdd, Int.reduceSub, Int.reduceMul, Int.reduceToNat, Int.reduceBEq, Int.reduceBNe, kT, kL]) (by simp (config := { maxSteps := 10000000 }) only [EV1, EV2, EV3, EV4, EV5, EV6, addT, istep, pickR, putD, bin1R, un1R, slcR, bnd, capsOf, fillP, V.plain, V.cells, V.known, C.v, blk, setL, setH, eqS, eq1, cmpS, cmp1, isNil, popTo, killT, setT, leT, V.below, S.below, R.below, V.val, C.val, S.val, R.val, R.takes, vals, shows, unnamed, V.kill, V.names, C.names, S.names, R.names, List.set, List.replicate, ↓q_cond_t, ↓q_cond_f, if_true, if_false, reduceCtorEq, rvals, rvC, result, C.known, V.noL, C.noL, S.noL, R.noL, Option.map, true_and, and_true, ge_iff_le, gt_iff_lt, implies_true, q_ite_t, q_ite_f, beq_iff_eq, bne_iff_ne, q_ne, Nat.reduceAdd, Nat.reducePow, Int.reducePow, Nat.reduceMul, Nat.reduceSub, Nat.reduceLeDiff, Nat.reduceLT, Nat.reduceEqDiff, Int.reduceNeg, Int.reduceLT, Int.reduceLE, Int.reduceEq, Int.reduceNe, Int.reduceAdd, Int.reduceSub, Int.reduceMul, Int.reduceToNat, Int.reduceBEq, Int.reduceBNe, kc_all, kc_below, kL, Cap.cl, List.any_cons, List.any_nil]))
    · have : q = 16 := by omega
      subst this
      simp only [kT, kL]
      refine run_sound (Tab.ok_Γ _) 400 _ _ _ _ ?_
      simp (config := { maxSteps := 10000000 }) only [EV1, EV2, EV3, EV4, EV5, EV6, addT, istep, pickR, putD, bin1R, un1R, slcR, bnd, capsOf, fillP, V.plain, V.cells, V.known, C.v, blk, setL, setH, eqS, eq1, cmpS, cmp1, isNil, popTo, killT, setT, leT, V.below, S.below, R.below, V.val, C.val, S.val, R.val, R.takes, vals, shows, unnamed, V.kill, V.names, C.names, S.names, R.names, List.set, List.replicate, ↓q_cond_t, ↓q_cond_f, if_true, if_false, reduceCtorEq, rvals, rvC, result, C.known, V.noL, C.noL, S.noL, R.noL, Option.map, true_and, and_true, ge_iff_le, gt_iff_lt, implies_true, q_ite_t, q_ite_f, beq_iff_eq, bne_iff_ne, q_ne, Nat.reduceAdd, Nat.reducePow, Int.reducePow, Nat.reduceMul, Nat.reduceSub, Nat.reduceLeDiff, Nat.reduceLT, Nat.reduceEqDiff, Int.reduceNeg, Int.reduceLT, Int.reduceLE, Int.reduceEq, Int.reduceNe, Int.reduceAdd, Int.reduceSub, Int.reduceMul, Int.reduceToNat, Int.reduceBEq, Int.reduceBNe, Int.lt_irrefl, q_cast]
      refine loop_rule (α := Nat × Nat) [7, 9, 29, 30, 31, 32, 33, 34, 35, 36, 37] (fun q => [(7, .s (.sl (.l 3) 0 (16 + q.1) q.2)), (9, .s (.i .i64 q.1))]) (fun q => [⟨.rw, a.cl, 11⟩, ⟨.rw, b.cl, 11⟩, ⟨.rw, [.i .i64 64], 1⟩, ⟨.rw, kc (16 + q.1), q.2⟩]) (fun _ => h) (fun q => q.1 ≤ 8 ∧ 16 + q.1 ≤ q.2) (fun q => 8 - q.1) (0, c) (by simp only; omega) ?_ ?_
      · refine Wk.same rfl rfl ?_
        simp (config := { maxSteps := 10000000 }) only [EV1, EV2, EV3, EV4, EV5, EV6, addT, istep, pickR, putD, bin1R, un1R, slcR, bnd, capsOf, fillP, V.plain, V.cells, V.known, C.v, blk, setL, setH, eqS, eq1, cmpS, cmp1, isNil, popTo, killT, setT, leT, V.below, S.below, R.below, V.val, C.val, S.val, R.val, R.takes, vals, shows, unnamed, V.kill, V.names, C.names, S.names, R.names, List.set, List.replicate, ↓q_cond_t, ↓q_cond_f, if_true, if_false, reduceCtorEq, rvals, rvC, result, C.known, V.noL, C.noL, S.noL, R.noL, Option.map, true_and, and_true, ge_iff_le, gt_iff_lt, implies_true, q_ite_t, q_ite_f, beq_iff_eq, bne_iff_ne, q_ne, Nat.reduceAdd, Nat.reducePow, Int.reducePow, Nat.reduceMul, Nat.reduceSub, Nat.reduceLeDiff, Nat.reduceLT, Nat.reduceEqDiff, Int.reduceNeg, Int.reduceLT, Int.reduceLE, Int.reduceEq, Int.reduceNe, Int.reduceAdd, Int.reduceSub, Int.reduceMul, Int.reduceToNat, Int.reduceBEq, Int.reduceBNe, q_cast, Int.natCast_zero]
      · clear IH
        rintro X2 ⟨q, c⟩ ⟨hq, hqc⟩ IH
        simp only at hq hqc IH ⊢
        rcases Nat.lt_or_ge q 8 with h1 | h1
        · have c1 : (q : Int) < 8 := by omega
          have w1 : IntKind.i64.wrap ((q : Int) + 1) = ((q + 1 : Nat) : Int) := by rw [wrap64] <;> omega
          have l1 := kv_boot h1
          have p1 : ((16 + q + 1) * 8 ≤ 140737488355328) := by omega
          refine run_sound (Tab.ok_Γ _) 200 _ _ _ _ ?_
          simp (config := { maxSteps := 10000000 }) only [EV1, EV2, EV3, EV4, EV5, EV6, addT, istep, pickR, putD, bin1R, un1R, slcR, bnd, capsOf, fillP, V.plain, V.cells, V.known, C.v, blk, setL, setH, eqS, eq1, cmpS, cmp1, isNil, popTo, killT, setT, leT, V.below, S.below, R.below, V.val, C.val, S.val, R.val, R.takes, vals, shows, unnamed, V.kill, V.names, C.names, S.names, R.names, List.set, List.replicate, ↓q_cond_t, ↓q_cond_f, if_true, if_false, reduceCtorEq, rvals, rvC, result, C.known, V.noL, C.noL, S.noL, R.noL, Option.map, true_and, and_true, ge_iff_le, gt_iff_lt, implies_true, q_ite_t, q_ite_f, beq_iff_eq, bne_iff_ne, q_ne, Nat.reduceAdd, Nat.reducePow, Int.reducePow, Nat.reduceMul, Nat.reduceSub, Nat.reduceLeDiff, Nat.reduceLT, Nat.reduceEqDiff, Int.reduceNeg, Int.reduceLT, Int.reduceLE, Int.reduceEq, Int.reduceNe, Int.reduceAdd, Int.reduceSub, Int.reduceMul, Int.reduceToNat, Int.reduceBEq, Int.reduceBNe, T9b, T9, bootG, c1, l1, w1, put, fillP, sub, List.take_succ_cons, List.take_zero, List.drop_zero, List.drop_succ_cons, kc_known, kc_len, kc_all, kc_succ, p1, Cap.cl, List.any_cons, List.any_nil]
          intro c' hc'
          exact IH (q + 1, c') _ (by simp only; omega) (by simp only; omega) (Wk.keep 4 rfl rfl (by simp (config := { maxSteps := 10000000 }) only [EV1, EV2, EV3, EV4, EV5, EV6, addT, istep, pickR, putD, bin1R, un1R, slcR, bnd, capsOf, fillP, V.plain, V.cells, V.known, C.v, blk, setL, setH, eqS, eq1, cmpS, cmp1, isNil, popTo, killT, setT, leT, V.below, S.below, R.below, V.val, C.val, S.val, R.val, R.takes, vals, shows, unnamed, V.kill, V.names, C.names, S.names, R.names, List.set, List.replicate, ↓q_cond_t, ↓q_cond_f, if_true, if_false, reduceCtorEq, rvals, rvC, result, C.known, V.noL, C.noL, S.noL, R.noL, Option.map, true_and, and_true, ge_iff_le, gt_iff_lt, implies_true, q_ite_t, q_ite_f, beq_iff_eq, bne_iff_ne, q_ne, Nat.reduceAdd, Nat.reducePow, Int.reducePow, Nat.reduceMul, Nat.reduceSub, Nat.reduceLeDiff, Nat.reduceLT, Nat.reduceEqDiff, Int.reduceNeg, Int.reduceLT, Int.reduceLE, Int.reduceEq, Int.reduceNe, Int.reduceAdd, Int.reduceSub, Int.reduceMul, Int.reduceToNat, Int.reduceBEq, Int.reduceBNe, Nat.add_assoc, List.any_cons, List.any_nil]) (by simp (config := { maxSteps := 10000000 }) only [EV1, EV2, EV3, EV4, EV5, EV6, addT, istep, pickR, putD, bin1R, un1R, slcR, bnd, capsOf, fillP, V.plain, V.cells, V.known, C.v, blk, setL, setH, eqS, eq1, cmpS, cmp1, isNil, popTo, killT, setT, leT, V.below, S.below, R.below, V.val, C.val, S.val, R.val, R.takes, vals, shows, unnamed, V.kill, V.names, C.names, S.names, R.names, List.set, List.replicate, ↓q_cond_t, ↓q_cond_f, if_true, if_false, reduceCtorEq, rvals, rvC, result, C.known, V.noL, C.noL, S.noL, R.noL, Option.map, true_and, and_true, ge_iff_le, gt_iff_lt, implies_true, q_ite_t, q_ite_f, beq_iff_eq, bne_iff_ne, q_ne, Nat.reduceAdd, Nat.reducePow, Int.reducePow, Nat.reduceMul, Nat.reduceSub, Nat.reduceLeDiff, Nat.reduceLT, Nat.reduceEqDiff, Int.reduceNeg, Int.reduceLT, Int.reduceLE, Int.reduceEq, Int.reduceNe, Int.reduceAdd, Int.reduceSub, Int.reduceMul, Int.reduceToNat, Int.reduceBEq, Int.reduceBNe]) (by simp (config := { maxSteps := 10000000 }) only [EV1, EV2, EV3, EV4, EV5, EV6, addT, istep, pickR, putD, bin1R, un1R, slcR, bnd, capsOf, fillP, V.plain, V.cells, V.known, C.v, blk, setL, setH, eqS, eq1, cmpS, cmp1, isNil, popTo, killT, setT, leT, V.below, S.below, R.below, V.val, C.val, S.val, R.val, R.takes, vals, shows, unnamed, V.kill, V.names, C.names, S.names, R.names, List.set, List.replicate, ↓q_cond_t, ↓q_cond_f, if_true, if_false, reduceCtorEq, rvals, rvC, result, C.known, V.noL, C.noL, S.noL, R.noL, Option.map, true_and, and_true, ge_iff_le, gt_iff_lt, implies_true, q_ite_t, q_ite_f, beq_iff_eq, bne_iff_ne, q_ne, Nat.reduceAdd, Nat.reducePow, Int.reducePow, Nat.reduceMul, Nat.reduceSub, Nat.reduceLeDiff, Nat.reduceLT, Nat.reduceEqDiff, Int.reduceNeg, Int.reduceLT, Int.reduceLE, Int.reduceEq, Int.reduceNe, Int.reduceAdd, Int.reduceSub, Int.reduceMul, Int.reduceToNat, Int.reduceBEq, Int.reduceBNe, kc_all, kc_below, kL, Cap.cl, List.any_cons, List.any_nil]))
        · have : q = 8 := by omega
          subst this
          refine run_sound (Tab.ok_Γ _) 400 _ _ _ _ ?_
          simp (config := { maxSteps := 10000000 }) only [EV1, EV2, EV3, EV4, EV5, EV6, addT, istep, pickR, putD, bin1R, un1R, slcR, bnd, capsOf, fillP, V.plain, V.cells, V.known, C.v, blk, setL, setH, eqS, eq1, cmpS, cmp1, isNil, popTo, killT, setT, leT, V.below, S.below, R.below, V.val, C.val, S.val, R.val, R.takes, vals, shows, unnamed, V.kill, V.names, C.names, S.names, R.names, List.set, List.replicate, ↓q_cond_t, ↓q_cond_f, if_true, if_false, reduceCtorEq, rvals, rvC, result, C.known, V.noL, C.noL, S.noL, R.noL, Option.map, true_and, and_true, ge_iff_le, gt_iff_lt, implies_true, q_ite_t, q_ite_f, beq_iff_eq, bne_iff_ne, q_ne, Nat.reduceAdd, Nat.reducePow, Int.reducePow, Nat.reduceMul, Nat.reduceSub, Nat.reduceLeDiff, Nat.reduceLT, Nat.reduceEqDiff, Int.reduceNeg, Int.reduceLT, Int.reduceLE, Int.reduceEq, Int.reduceNe, Int.reduceAdd, Int.reduceSub, Int.reduceMul, Int.reduceToNat, Int.reduceBEq, Int.reduceBNe, Int.lt_irrefl, q_cast]
          refine loop_rule (α := Nat) [4, 10, 11, 38, 39, 40, 41, 42, 43, 44, 45, 46, 47, 48, 49, 50, 51, 52, 53, 54, 55, 56, 57, 58, 59, 60, 61, 62, 63, 64, 65, 66, 67, 68, 69, 70, 71, 72, 73, 74, 75, 76, 77, 78, 79, 80] (fun i => [(10, .s (.i .i64 i))]) (fun _ => [⟨.rw, a.cl, 11⟩, ⟨.rw, b.cl, 11⟩, ⟨.rw, [.i .i64 64], 1⟩, ⟨.rw, kc 24, c⟩]) (fun _ => h) (fun i => i ≤ 24) (fun i => 24 - i) 0 (by omega) ?_ ?_
          · refine Wk.same rfl rfl ?_
            simp (config := { maxSteps := 10000000 }) only [EV1, EV2, EV3, EV4, EV5, EV6, addT, istep, pickR, putD, bin1R, un1R, slcR, bnd, capsOf, fillP, V.plain, V.cells, V.known, C.v, blk, setL, setH, eqS, eq1, cmpS, cmp1, isNil, popTo, killT, setT, leT, V.below, S.below, R.below, V.val, C.val, S.val, R.val, R.takes, vals, shows, unnamed, V.kill, V.names, C.names, S.names, R.names, List.set, List.replicate, ↓q_cond_t, ↓q_cond_f, if_true, if_false, reduceCtorEq, rvals, rvC, result, C.known, V.noL, C.noL, S.noL, R.noL, Option.map, true_and, and_true, ge_iff_le, gt_iff_lt, implies_true, q_ite_t, q_ite_f, beq_iff_eq, bne_iff_ne, q_ne, Nat.reduceAdd, Nat.reducePow, Int.reducePow, Nat.reduceMul, Nat.reduceSub, Nat.reduceLeDiff, Nat.reduceLT, Nat.reduceEqDiff, Int.reduceNeg, Int.reduceLT, Int.reduceLE, Int.reduceEq, Int.reduceNe, Int.reduceAdd, Int.reduceSub, Int.reduceMul, Int.reduceToNat, Int.reduceBEq, Int.reduceBNe, q_cast, Int.natCast_zero]
          · clear IH
            intro X3 i hi IH
            rcases Nat.lt_or_ge i 24 with h2 | h2
            · have c1 : (i : Int) < 24 := by omega
              obtain ⟨v1, v2, v3, v4⟩ := kv_ok i h2
              have w1 : IntKind.i64.wrap ((i : Int) + 1) = ((i + 1 : Nat) : Int) := by rw [wrap64] <;> omega
              refine run_sound (Tab.ok_Γ _) 200 _ _ _ _ ?_
              simp (config := { maxSteps := 10000000 }) only [EV1, EV2, EV3, EV4, EV5, EV6, addT, istep, pickR, putD, bin1R, un1R, slcR, bnd, capsOf, fillP, V.plain, V.cells, V.known, C.v, blk, setL, setH, eqS, eq1, cmpS, cmp1, isNil, popTo, killT, setT, leT, V.below, S.below, R.below, V.val, C.val, S.val, R.val, R.takes, vals, shows, unnamed, V.kill, V.names, C.names, S.names, R.names, List.set, List.replicate, ↓q_cond_t, ↓q_cond_f, if_true, if_false, reduceCtorEq, rvals, rvC, result, C.known, V.noL, C.noL, S.noL, R.noL, Option.map, true_and, and_true, ge_iff_le, gt_iff_lt, implies_true, q_ite_t, q_ite_f, beq_iff_eq, bne_iff_ne, q_ne, Nat.reduceAdd, Nat.reducePow, Int.reducePow, Nat.reduceMul, Nat.reduceSub, Nat.reduceLeDiff, Nat.reduceLT, Nat.reduceEqDiff, Int.reduceNeg, Int.reduceLT, Int.reduceLE, Int.reduceEq, Int.reduceNe, Int.reduceAdd, Int.reduceSub, Int.reduceMul, Int.reduceToNat, Int.reduceBEq, Int.reduceBNe, c1]
              refine loop_rule (α := Nat) [4, 11, 44, 45, 46, 47, 48, 49, 50, 51, 52, 53, 54, 55, 56, 57, 58, 59, 60, 61, 62, 63, 64, 65, 66, 67, 68, 69, 70, 71, 72, 73, 74, 75, 76, 77, 78, 79, 80] (fun k => [(11, .s (.i .i64 k))]) (fun _ => [⟨.rw, a.cl, 11⟩, ⟨.rw, b.cl, 11⟩, ⟨.rw, [.i .i64 64], 1⟩, ⟨.rw, kc 24, c⟩]) (fun _ => h) (fun k => k ≤ i) (fun k => i - k) 0 (by omega) ?_ ?_
              · refine Wk.same rfl rfl ?_
                simp (config := { maxSteps := 10000000 }) only [EV1, EV2, EV3, EV4, EV5, EV6, addT, istep, pickR, putD, bin1R, un1R, slcR, bnd, capsOf, fillP, V.plain, V.cells, V.known, C.v, blk, setL, setH, eqS, eq1, cmpS, cmp1, isNil, popTo, killT, setT, leT, V.below, S.below, R.below, V.val, C.val, S.val, R.val, R.takes, vals, shows, unnamed, V.kill, V.names, C.names, S.names, R.names, List.set, List.replicate, ↓q_cond_t, ↓q_cond_f, if_true, if_false, reduceCtorEq, rvals, rvC, result, C.known, V.noL, C.noL, S.noL, R.noL, Option.map, true_and, and_true, ge_iff_le, gt_iff_lt, implies_true, q_ite_t, q_ite_f, beq_iff_eq, bne_iff_ne, q_ne, Nat.reduceAdd, Nat.reducePow, Int.reducePow, Nat.reduceMul, Nat.reduceSub, Nat.reduceLeDiff, Nat.reduceLT, Nat.reduceEqDiff, Int.reduceNeg, Int.reduceLT, Int.reduceLE, Int.reduceEq, Int.reduceNe, Int.reduceAdd, Int.reduceSub, Int.reduceMul, Int.reduceToNat, Int.reduceBEq, Int.reduceBNe, q_cast, Int.natCast_zero]
              · intro X4 k hk IH2
                rcases Nat.lt_or_ge k i with h3 | h3
                · have d1 : (k : Int) < i := by omega
                  have d2 : (0 : Int) ≤ k := by omega
                  have d3 : (0 : Int) ≤ i := by omega
                  have d4 : (k : Int) < 24 := by omega
                  have g1 := kc_get h2
                  have g2 := kc_get (q := 24) (i := k) (by omega)
                  have e1 : (kv i == kv k) = false := by simpa using v4 k h3
                  have e2 : ¬ (kv i < 4) := by omega
                  have w2 : IntKind.i64.wrap (kv i + 4) = kv i + 4 := wrap64 (by omega) (by omega)
                  have e3 : ¬ (1024 < kv i + 4) := by omega
                  have w3 : IntKind.i64.wrap ((k : Int) + 1) = ((k + 1 : Nat) : Int) := by rw [wrap64] <;> omega
                  refine run_sound (Tab.ok_Γ _) 200 _ _ _ _ ?_
                  simp (config := { maxSteps := 10000000 }) only [EV1, EV2, EV3, EV4, EV5, EV6, addT, istep, pickR, putD, bin1R, un1R, slcR, bnd, capsOf, fillP, V.plain, V.cells, V.known, C.v, blk, setL, setH, eqS, eq1, cmpS, cmp1, isNil, popTo, killT, setT, leT, V.below, S.below, R.below, V.val, C.val, S.val, R.val, R.takes, vals, shows, unnamed, V.kill, V.names, C.names, S.names, R.names, List.set, List.replicate, ↓q_cond_t, ↓q_cond_f, if_true, if_false, reduceCtorEq, rvals, rvC, result, C.known, V.noL, C.noL, S.noL, R.noL, Option.map, true_and, and_true, ge_iff_le, gt_iff_lt, implies_true, q_ite_t, q_ite_f, beq_iff_eq, bne_iff_ne, q_ne, Nat.reduceAdd, Nat.reducePow, Int.reducePow, Nat.reduceMul, Nat.reduceSub, Nat.reduceLeDiff, Nat.reduceLT, Nat.reduceEqDiff, Int.reduceNeg, Int.reduceLT, Int.reduceLE, Int.reduceEq, Int.reduceNe, Int.reduceAdd, Int.reduceSub, Int.reduceMul, Int.reduceToNat, Int.reduceBEq, Int.reduceBNe, c1, d1, d2, d3, d4, g1, g2, e1, e2, e3, w2, w3, v3, v4 k h3]
                  exact IH2 (k + 1) _ (by omega) (by omega) (Wk.same rfl rfl (by simp (config := { maxSteps := 10000000 }) only [EV1, EV2, EV3, EV4, EV5, EV6, addT, istep, pickR, putD, bin1R, un1R, slcR, bnd, capsOf, fillP, V.plain, V.cells, V.known, C.v, blk, setL, setH, eqS, eq1, cmpS, cmp1, isNil, popTo, killT, setT, leT, V.below, S.below, R.below, V.val, C.val, S.val, R.val, R.takes, vals, shows, unnamed, V.kill, V.names, C.names, S.names, R.names, List.set, List.replicate, ↓q_cond_t, ↓q_cond_f, if_true, if_false, reduceCtorEq, rvals, rvC, result, C.known, V.noL, C.noL, S.noL, R.noL, Option.map, true_and, and_true, ge_iff_le, gt_iff_lt, implies_true, q_ite_t, q_ite_f, beq_iff_eq, bne_iff_ne, q_ne, Nat.reduceAdd, Nat.reducePow, Int.reducePow, Nat.reduceMul, Nat.reduceSub, Nat.reduceLeDiff, Nat.reduceLT, Nat.reduceEqDiff, Int.reduceNeg, Int.reduceLT, Int.reduceLE, Int.reduceEq, Int.reduceNe, Int.reduceAdd, Int.reduceSub, Int.reduceMul, Int.reduceToNat, Int.reduceBEq, Int.reduceBNe]))
                · have : k = i := by omega
                  subst this
                  refine run_sound (Tab.ok_Γ _) 200 _ _ _ _ ?_
                  simp (config := { maxSteps := 10000000 }) only [EV1, EV2, EV3, EV4, EV5, EV6, addT, istep, pickR, putD, bin1R, un1R, slcR, bnd, capsOf, fillP, V.plain, V.cells, V.known, C.v, blk, setL, setH, eqS, eq1, cmpS, cmp1, isNil, popTo, killT, setT, leT, V.below, S.below, R.below, V.val, C.val, S.val, R.val, R.takes, vals, shows, unnamed, V.kill, V.names, C.names, S.names, R.names, List.set, List.replicate, ↓q_cond_t, ↓q_cond_f, if_true, if_false, reduceCtorEq, rvals, rvC, result, C.known, V.noL, C.noL, S.noL, R.noL, Option.map, true_and, and_true, ge_iff_le, gt_iff_lt, implies_true, q_ite_t, q_ite_f, beq_iff_eq, bne_iff_ne, q_ne, Nat.reduceAdd, Nat.reducePow, Int.reducePow, Nat.reduceMul, Nat.reduceSub, Nat.reduceLeDiff, Nat.reduceLT, Nat.reduceEqDiff, Int.reduceNeg, Int.reduceLT, Int.reduceLE, Int.reduceEq, Int.reduceNe, Int.reduceAdd, Int.reduceSub, Int.reduceMul, Int.reduceToNat, Int.reduceBEq, Int.reduceBNe, Int.lt_irrefl, w1]
                  exact IH (k + 1) _ (by omega) (by omega) (Wk.same rfl rfl (by simp (config := { maxSteps := 10000000 }) only [EV1, EV2, EV3, EV4, EV5, EV6, addT, istep, pickR, putD, bin1R, un1R, slcR, bnd, capsOf, fillP, V.plain, V.cells, V.known, C.v, blk, setL, setH, eqS, eq1, cmpS, cmp1, isNil, popTo, killT, setT, leT, V.below, S.below, R.below, V.val, C.val, S.val, R.val, R.takes, vals, shows, unnamed, V.kill, V.names, C.names, S.names, R.names, List.set, List.replicate, ↓q_cond_t, ↓q_cond_f, if_true, if_false, reduceCtorEq, rvals, rvC, result, C.known, V.noL, C.noL, S.noL, R.noL, Option.map, true_and, and_true, ge_iff_le, gt_iff_lt, implies_true, q_ite_t, q_ite_f, beq_iff_eq, bne_iff_ne, q_ne, Nat.reduceAdd, Nat.reducePow, Int.reducePow, Nat.reduceMul, Nat.reduceSub, Nat.reduceLeDiff, Nat.reduceLT, Nat.reduceEqDiff, Int.reduceNeg, Int.reduceLT, Int.reduceLE, Int.reduceEq, Int.reduceNe, Int.reduceAdd, Int.reduceSub, Int.reduceMul, Int.reduceToNat, Int.reduceBEq, Int.reduceBNe]))
            · have : i = 24 := by omega
              subst this
              clear IH
              refine run_sound (Tab.ok_Γ _) 400 _ _ _ _ ?_
              simp (config := { maxSteps := 10000000 }) only [EV1, EV2, EV3, EV4, EV5, EV6, addT, istep, pickR, putD, bin1R, un1R, slcR, bnd, capsOf, fillP, V.plain, V.cells, V.known, C.v, blk, setL, setH, eqS, eq1, cmpS, cmp1, isNil, popTo, killT, setT, leT, V.below, S.below, R.below, V.val, C.val, S.val, R.val, R.takes, vals, shows, unnamed, V.kill, V.names, C.names, S.names, R.names, List.set, List.replicate, ↓q_cond_t, ↓q_cond_f, if_true, if_false, reduceCtorEq, rvals, rvC, result, C.known, V.noL, C.noL, S.noL, R.noL, Option.map, true_and, and_true, ge_iff_le, gt_iff_lt, implies_true, q_ite_t, q_ite_f, beq_iff_eq, bne_iff_ne, q_ne, Nat.reduceAdd, Nat.reducePow, Int.reducePow, Nat.reduceMul, Nat.reduceSub, Nat.reduceLeDiff, Nat.reduceLT, Nat.reduceEqDiff, Int.reduceNeg, Int.reduceLT, Int.reduceLE, Int.reduceEq, Int.reduceNe, Int.reduceAdd, Int.reduceSub, Int.reduceMul, Int.reduceToNat, Int.reduceBEq, Int.reduceBNe, T9b, T9, slotAtG, capIF, capF, cap_eta, Cap.cl, sub, List.take_succ_cons, List.take_zero, List.drop_zero, List.drop_succ_cons, Int.lt_irrefl, q_cast]
              obtain ⟨N, f1, f2, f3, f4, _⟩ := slots_facts a
              obtain ⟨N2, g1, g2, g3, g4, _⟩ := slots_facts b
              have sz : ∀ (c : Cap) (N : Nat), slotsN c = N → slotAtV c N = 0 := fun c N e => by rw [slotAtV, e, if_neg (by omega)]
              have sv : ∀ (c : Cap) (N q : Nat), slotsN c = N → N ≤ 256 → q < N → 1024 ≤ c.obj → c.obj + wN c ≤ 65536 → 4 * (N : Int) ≤ wN c → slotAtV c q = c.obj + 4 * q := fun c N q e h0 h1 h2 h3 h4 => by
                rw [slotAtV, e, if_pos (by omega), wrap64 (n := 4 * (q : Int)) (by omega) (by omega), wrap64 (by omega) (by omega)]
              refine loop_rule (α := Nat) [14, 85, 86, 87, 88, 89, 90, 91, 92, 93, 94] (fun q => [(14, .s (.i .i64 q))]) (fun _ => [⟨.rw, a.cl, 11⟩, ⟨.rw, b.cl, 11⟩, ⟨.rw, [.i .i64 64], 1⟩, ⟨.rw, kc 24, c⟩]) (fun _ => h) (fun q => q ≤ N) (fun q => N - q) 0 (by omega) ?_ ?_
              · refine Wk.same rfl rfl ?_
                simp (config := { maxSteps := 10000000 }) only [EV1, EV2, EV3, EV4, EV5, EV6, addT, istep, pickR, putD, bin1R, un1R, slcR, bnd, capsOf, fillP, V.plain, V.cells, V.known, C.v, blk, setL, setH, eqS, eq1, cmpS, cmp1, isNil, popTo, killT, setT, leT, V.below, S.below, R.below, V.val, C.val, S.val, R.val, R.takes, vals, shows, unnamed, V.kill, V.names, C.names, S.names, R.names, List.set, List.replicate, ↓q_cond_t, ↓q_cond_f, if_true, if_false, reduceCtorEq, rvals, rvC, result, C.known, V.noL, C.noL, S.noL, R.noL, Option.map, true_and, and_true, ge_iff_le, gt_iff_lt, implies_true, q_ite_t, q_ite_f, beq_iff_eq, bne_iff_ne, q_ne, Nat.reduceAdd, Nat.reducePow, Int.reducePow, Nat.reduceMul, Nat.reduceSub, Nat.reduceLeDiff, Nat.reduceLT, Nat.reduceEqDiff, Int.reduceNeg, Int.reduceLT, Int.reduceLE, Int.reduceEq, Int.reduceNe, Int.reduceAdd, Int.reduceSub, Int.reduceMul, Int.reduceToNat, Int.reduceBEq, Int.reduceBNe, q_cast, Int.natCast_zero, Cap.cl]
              · intro X5 q hq IH
                rcases Nat.lt_or_ge q N with h3 | h3
                · obtain ⟨_, k1, k2, k3⟩ := f4 (by omega)
                  have e1 := sv a N q f1 f2 h3 k1 k2 k3
                  have e2 : (a.obj + 4 * (q : Int) != 0) = true := by rw [bne_iff_ne]; omega
                  have e3 : ¬ (a.obj + 4 * (q : Int) = 0) := by omega
                  have e4 : (q : Int) ≤ 256 := by omega
                  have w1 : IntKind.i64.wrap ((q : Int) + 1) = ((q + 1 : Nat) : Int) := by rw [wrap64] <;> omega
                  refine run_sound (Tab.ok_Γ _) 200 _ _ _ _ ?_
                  simp (config := { maxSteps := 10000000 }) only [EV1, EV2, EV3, EV4, EV5, EV6, addT, istep, pickR, putD, bin1R, un1R, slcR, bnd, capsOf, fillP, V.plain, V.cells, V.known, C.v, blk, setL, setH, eqS, eq1, cmpS, cmp1, isNil, popTo, killT, setT, leT, V.below, S.below, R.below, V.val, C.val, S.val, R.val, R.takes, vals, shows, unnamed, V.kill, V.names, C.names, S.names, R.names, List.set, List.replicate, ↓q_cond_t, ↓q_cond_f, if_true, if_false, reduceCtorEq, rvals, rvC, result, C.known, V.noL, C.noL, S.noL, R.noL, Option.map, true_and, and_true, ge_iff_le, gt_iff_lt, implies_true, q_ite_t, q_ite_f, beq_iff_eq, bne_iff_ne, q_ne, Nat.reduceAdd, Nat.reducePow, Int.reducePow, Nat.reduceMul, Nat.reduceSub, Nat.reduceLeDiff, Nat.reduceLT, Nat.reduceEqDiff, Int.reduceNeg, Int.reduceLT, Int.reduceLE, Int.reduceEq, Int.reduceNe, Int.reduceAdd, Int.reduceSub, Int.reduceMul, Int.reduceToNat, Int.reduceBEq, Int.reduceBNe, T9b, T9, slotAtG, capIF, capF, cap_eta, Cap.cl, sub, List.take_succ_cons, List.take_zero, List.drop_zero, List.drop_succ_cons, e1, e2, e3, e4, w1]
                  exact IH (q + 1) _ (by omega) (by omega) (Wk.same rfl rfl (by simp (config := { maxSteps := 10000000 }) only [EV1, EV2, EV3, EV4, EV5, EV6, addT, istep, pickR, putD, bin1R, un1R, slcR, bnd, capsOf, fillP, V.plain, V.cells, V.known, C.v, blk, setL, setH, eqS, eq1, cmpS, cmp1, isNil, popTo, killT, setT, leT, V.below, S.below, R.below, V.val, C.val, S.val, R.val, R.takes, vals, shows, unnamed, V.kill, V.names, C.names, S.names, R.names, List.set, List.replicate, ↓q_cond_t, ↓q_cond_f, if_true, if_false, reduceCtorEq, rvals, rvC, result, C.known, V.noL, C.noL, S.noL, R.noL, Option.map, true_and, and_true, ge_iff_le, gt_iff_lt, implies_true, q_ite_t, q_ite_f, beq_iff_eq, bne_iff_ne, q_ne, Nat.reduceAdd, Nat.reducePow, Int.reducePow, Nat.reduceMul, Nat.reduceSub, Nat.reduceLeDiff, Nat.reduceLT, Nat.reduceEqDiff, Int.reduceNeg, Int.reduceLT, Int.reduceLE, Int.reduceEq, Int.reduceNe, Int.reduceAdd, Int.reduceSub, Int.reduceMul, Int.reduceToNat, Int.reduceBEq, Int.reduceBNe]))
                · have : q = N := by omega
                  subst this
                  clear IH
                  have e1 := sz a q f1
                  refine run_sound (Tab.ok_Γ _) 400 _ _ _ _ ?_
                  simp (config := { maxSteps := 10000000 }) only [EV1, EV2, EV3, EV4, EV5, EV6, addT, istep, pickR, putD, bin1R, un1R, slcR, bnd, capsOf, fillP, V.plain, V.cells, V.known, C.v, blk, setL, setH, eqS, eq1, cmpS, cmp1, isNil, popTo, killT, setT, leT, V.below, S.below, R.below, V.val, C.val, S.val, R.val, R.takes, vals, shows, unnamed, V.kill, V.names, C.names, S.names, R.names, List.set, List.replicate, ↓q_cond_t, ↓q_cond_f, if_true, if_false, reduceCtorEq, rvals, rvC, result, C.known, V.noL, C.noL, S.noL, R.noL, Option.map, true_and, and_true, ge_iff_le, gt_iff_lt, implies_true, q_ite_t, q_ite_f, beq_iff_eq, bne_iff_ne, q_ne, Nat.reduceAdd, Nat.reducePow, Int.reducePow, Nat.reduceMul, Nat.reduceSub, Nat.reduceLeDiff, Nat.reduceLT, Nat.reduceEqDiff, Int.reduceNeg, Int.reduceLT, Int.reduceLE, Int.reduceEq, Int.reduceNe, Int.reduceAdd, Int.reduceSub, Int.reduceMul, Int.reduceToNat, Int.reduceBEq, Int.reduceBNe, T9b, T9, slotAtG, capIF, capF, cap_eta, Cap.cl, sub, List.take_succ_cons, List.take_zero, List.drop_zero, List.drop_succ_cons, e1]
                  refine loop_rule (α := Nat) [15, 95, 96, 97, 98, 99, 100, 101, 102, 103, 104] (fun k => [(15, .s (.i .i64 k))]) (fun _ => [⟨.rw, a.cl, 11⟩, ⟨.rw, b.cl, 11⟩, ⟨.rw, [.i .i64 64], 1⟩, ⟨.rw, kc 24, c⟩]) (fun _ => h) (fun k => k ≤ N2) (fun k => N2 - k) 0 (by omega) ?_ ?_
                  · refine Wk.same rfl rfl ?_
                    simp (config := { maxSteps := 10000000 }) only [EV1, EV2, EV3, EV4, EV5, EV6, addT, istep, pickR, putD, bin1R, un1R, slcR, bnd, capsOf, fillP, V.plain, V.cells, V.known, C.v, blk, setL, setH, eqS, eq1, cmpS, cmp1, isNil, popTo, killT, setT, leT, V.below, S.below, R.below, V.val, C.val, S.val, R.val, R.takes, vals, shows, unnamed, V.kill, V.names, C.names, S.names, R.names, List.set, List.replicate, ↓q_cond_t, ↓q_cond_f, if_true, if_false, reduceCtorEq, rvals, rvC, result, C.known, V.noL, C.noL, S.noL, R.noL, Option.map, true_and, and_true, ge_iff_le, gt_iff_lt, implies_true, q_ite_t, q_ite_f, beq_iff_eq, bne_iff_ne, q_ne, Nat.reduceAdd, Nat.reducePow, Int.reducePow, Nat.reduceMul, Nat.reduceSub, Nat.reduceLeDiff, Nat.reduceLT, Nat.reduceEqDiff, Int.reduceNeg, Int.reduceLT, Int.reduceLE, Int.reduceEq, Int.reduceNe, Int.reduceAdd, Int.reduceSub, Int.reduceMul, Int.reduceToNat, Int.reduceBEq, Int.reduceBNe, q_cast, Int.natCast_zero, Cap.cl]
                  · intro X6 k hk IH
                    rcases Nat.lt_or_ge k N2 with h4 | h4
                    · obtain ⟨_, k1, k2, k3⟩ := g4 (by omega)
                      have e1 := sv b N2 k g1 g2 h4 k1 k2 k3
                      have e2 : (b.obj + 4 * (k : Int) != 0) = true := by rw [bne_iff_ne]; omega
                      have e3 : ¬ (b.obj + 4 * (k : Int) = 0) := by omega
                      have e4 : (k : Int) ≤ 256 := by omega
                      have w1 : IntKind.i64.wrap ((k : Int) + 1) = ((k + 1 : Nat) : Int) := by rw [wrap64] <;> omega
                      refine run_sound (Tab.ok_Γ _) 200 _ _ _ _ ?_
                      simp (config := { maxSteps := 10000000 }) only [EV1, EV2, EV3, EV4, EV5, EV6, addT, istep, pickR, putD, bin1R, un1R, slcR, bnd, capsOf, fillP, V.plain, V.cells, V.known, C.v, blk, setL, setH, eqS, eq1, cmpS, cmp1, isNil, popTo, killT, setT, leT, V.below, S.below, R.below, V.val, C.val, S.val, R.val, R.takes, vals, shows, unnamed, V.kill, V.names, C.names, S.names, R.names, List.set, List.replicate, ↓q_cond_t, ↓q_cond_f, if_true, if_false, reduceCtorEq, rvals, rvC, result, C.known, V.noL, C.noL, S.noL, R.noL, Option.map, true_and, and_true, ge_iff_le, gt_iff_lt, implies_true, q_ite_t, q_ite_f, beq_iff_eq, bne_iff_ne, q_ne, Nat.reduceAdd, Nat.reducePow, Int.reducePow, Nat.reduceMul, Nat.reduceSub, Nat.reduceLeDiff, Nat.reduceLT, Nat.reduceEqDiff, Int.reduceNeg, Int.reduceLT, Int.reduceLE, Int.reduceEq, Int.reduceNe, Int.reduceAdd, Int.reduceSub, Int.reduceMul, Int.reduceToNat, Int.reduceBEq, Int.reduceBNe, T9b, T9, slotAtG, capIF, capF, cap_eta, Cap.cl, sub, List.take_succ_cons, List.take_zero, List.drop_zero, List.drop_succ_cons, e1, e2, e3, e4, w1]
                      exact IH (k + 1) _ (by omega) (by omega) (Wk.same rfl rfl (by simp (config := { maxSteps := 10000000 }) only [EV1, EV2, EV3, EV4, EV5, EV6, addT, istep, pickR, putD, bin1R, un1R, slcR, bnd, capsOf, fillP, V.plain, V.cells, V.known, C.v, blk, setL, setH, eqS, eq1, cmpS, cmp1, isNil, popTo, killT, setT, leT, V.below, S.below, R.below, V.val, C.val, S.val, R.val, R.takes, vals, shows, unnamed, V.kill, V.names, C.names, S.names, R.names, List.set, List.replicate, ↓q_cond_t, ↓q_cond_f, if_true, if_false, reduceCtorEq, rvals, rvC, result, C.known, V.noL, C.noL, S.noL, R.noL, Option.map, true_and, and_true, ge_iff_le, gt_iff_lt, implies_true, q_ite_t, q_ite_f, beq_iff_eq, bne_iff_ne, q_ne, Nat.reduceAdd, Nat.reducePow, Int.reducePow, Nat.reduceMul, Nat.reduceSub, Nat.reduceLeDiff, Nat.reduceLT, Nat.reduceEqDiff, Int.reduceNeg, Int.reduceLT, Int.reduceLE, Int.reduceEq, Int.reduceNe, Int.reduceAdd, Int.reduceSub, Int.reduceMul, Int.reduceToNat, Int.reduceBEq, Int.reduceBNe]))
                    · have : k = N2 := by omega
                      subst this
                      clear IH
                      have e2 := sz b k g1
                      by_cases z1 : q = 0
                      · subst z1
                        refine run_sound (Tab.ok_Γ _) 400 _ _ _ _ ?_
                        simp (config := { maxSteps := 10000000 }) only [EV1, EV2, EV3, EV4, EV5, EV6, addT, istep, pickR, putD, bin1R, un1R, slcR, bnd, capsOf, fillP, V.plain, V.cells, V.known, C.v, blk, setL, setH, eqS, eq1, cmpS, cmp1, isNil, popTo, killT, setT, leT, V.below, S.below, R.below, V.val, C.val, S.val, R.val, R.takes, vals, shows, unnamed, V.kill, V.names, C.names, S.names, R.names, List.set, List.replicate, ↓q_cond_t, ↓q_cond_f, if_true, if_false, reduceCtorEq, rvals, rvC, result, C.known, V.noL, C.noL, S.noL, R.noL, Option.map, true_and, and_true, ge_iff_le, gt_iff_lt, implies_true, q_ite_t, q_ite_f, beq_iff_eq, bne_iff_ne, q_ne, Nat.reduceAdd, Nat.reducePow, Int.reducePow, Nat.reduceMul, Nat.reduceSub, Nat.reduceLeDiff, Nat.reduceLT, Nat.reduceEqDiff, Int.reduceNeg, Int.reduceLT, Int.reduceLE, Int.reduceEq, Int.reduceNe, Int.reduceAdd, Int.reduceSub, Int.reduceMul, Int.reduceToNat, Int.reduceBEq, Int.reduceBNe, T9b, T9, slotAtG, capIF, capF, cap_eta, Cap.cl, sub, List.take_succ_cons, List.take_zero, List.drop_zero, List.drop_succ_cons, e2, q_cast, Int.natCast_zero]
                        exact hR
                      by_cases z2 : k = 0
                      · subst z2
                        have e2 : slotAtV b 0 = 0 := e2
                        have z3 : ¬ ((q : Int) = 0) := by omega
                        refine run_sound (Tab.ok_Γ _) 400 _ _ _ _ ?_
                        simp (config := { maxSteps := 10000000 }) only [EV1, EV2, EV3, EV4, EV5, EV6, addT, istep, pickR, putD, bin1R, un1R, slcR, bnd, capsOf, fillP, V.plain, V.cells, V.known, C.v, blk, setL, setH, eqS, eq1, cmpS, cmp1, isNil, popTo, killT, setT, leT, V.below, S.below, R.below, V.val, C.val, S.val, R.val, R.takes, vals, shows, unnamed, V.kill, V.names, C.names, S.names, R.names, List.set, List.replicate, ↓q_cond_t, ↓q_cond_f, if_true, if_false, reduceCtorEq, rvals, rvC, result, C.known, V.noL, C.noL, S.noL, R.noL, Option.map, true_and, and_true, ge_iff_le, gt_iff_lt, implies_true, q_ite_t, q_ite_f, beq_iff_eq, bne_iff_ne, q_ne, Nat.reduceAdd, Nat.reducePow, Int.reducePow, Nat.reduceMul, Nat.reduceSub, Nat.reduceLeDiff, Nat.reduceLT, Nat.reduceEqDiff, Int.reduceNeg, Int.reduceLT, Int.reduceLE, Int.reduceEq, Int.reduceNe, Int.reduceAdd, Int.reduceSub, Int.reduceMul, Int.reduceToNat, Int.reduceBEq, Int.reduceBNe, T9b, T9, slotAtG, capIF, capF, cap_eta, Cap.cl, sub, List.take_succ_cons, List.take_zero, List.drop_zero, List.drop_succ_cons, e2, z3, q_cast, Int.natCast_zero]
                        exact hR
                      have z3 : ¬ ((q : Int) = 0) := by omega
                      have z4 : ¬ ((k : Int) = 0) := by omega
                      cases hap : apartB a b with
                      | false =>
                        refine run_sound (Tab.ok_Γ _) 400 _ _ _ _ ?_
                        simp (config := { maxSteps := 10000000 }) only [EV1, EV2, EV3, EV4, EV5, EV6, addT, istep, pickR, putD, bin1R, un1R, slcR, bnd, capsOf, fillP, V.plain, V.cells, V.known, C.v, blk, setL, setH, eqS, eq1, cmpS, cmp1, isNil, popTo, killT, setT, leT, V.below, S.below, R.below, V.val, C.val, S.val, R.val, R.takes, vals, shows, unnamed, V.kill, V.names, C.names, S.names, R.names, List.set, List.replicate, ↓q_cond_t, ↓q_cond_f, if_true, if_false, reduceCtorEq, rvals, rvC, result, C.known, V.noL, C.noL, S.noL, R.noL, Option.map, true_and, and_true, ge_iff_le, gt_iff_lt, implies_true, q_ite_t, q_ite_f, beq_iff_eq, bne_iff_ne, q_ne, Nat.reduceAdd, Nat.reducePow, Int.reducePow, Nat.reduceMul, Nat.reduceSub, Nat.reduceLeDiff, Nat.reduceLT, Nat.reduceEqDiff, Int.reduceNeg, Int.reduceLT, Int.reduceLE, Int.reduceEq, Int.reduceNe, Int.reduceAdd, Int.reduceSub, Int.reduceMul, Int.reduceToNat, Int.reduceBEq, Int.reduceBNe, T9b, T9, slotAtG, capIF, capF, cap_eta, Cap.cl, sub, List.take_succ_cons, List.take_zero, List.drop_zero, List.drop_succ_cons, e2, z3, z4, hap]
                        exact hR
                      | true =>
                        obtain ⟨_, k1, k2, k3⟩ := f4 (by omega)
                        obtain ⟨_, j1, j2, j3⟩ := g4 (by omega)
                        have a0 : slotAtV a 0 = a.obj := by
                          have := sv a q 0 f1 f2 (by omega) k1 k2 k3
                          simpa using this
                        have b0 : slotAtV b 0 = b.obj := by
                          have := sv b k 0 g1 g2 (by omega) j1 j2 j3
                          simpa using this
                        have w1 : IntKind.i64.wrap (4 * (q : Int)) = 4 * q := wrap64 (by omega) (by omega)
                        have w2 : IntKind.i64.wrap (4 * (k : Int)) = 4 * k := wrap64 (by omega) (by omega)
                        have w3 : IntKind.i64.wrap (a.obj + 4 * (q : Int)) = a.obj + 4 * q := wrap64 (by omega) (by omega)
                        have w4 : IntKind.i64.wrap (b.obj + 4 * (k : Int)) = b.obj + 4 * k := wrap64 (by omega) (by omega)
                        have hap2 := hap
                        simp only [apartB, Bool.or_eq_true, beq_iff_eq, decide_eq_true_eq] at hap2
                        rw [wrap64 (n := a.obj + wN a) (by omega) (by omega), wrap64 (n := b.obj + wN b) (by omega) (by omega)] at hap2
                        have o1 : a.obj + 4 * (q : Int) ≤ b.obj ∨ b.obj + 4 * (k : Int) ≤ a.obj := by omega
                        refine run_sound (Tab.ok_Γ _) 400 _ _ _ _ ?_
                        simp (config := { maxSteps := 10000000 }) only [EV1, EV2, EV3, EV4, EV5, EV6, addT, istep, pickR, putD, bin1R, un1R, slcR, bnd, capsOf, fillP, V.plain, V.cells, V.known, C.v, blk, setL, setH, eqS, eq1, cmpS, cmp1, isNil, popTo, killT, setT, leT, V.below, S.below, R.below, V.val, C.val, S.val, R.val, R.takes, vals, shows, unnamed, V.kill, V.names, C.names, S.names, R.names, List.set, List.replicate, ↓q_cond_t, ↓q_cond_f, if_true, if_false, reduceCtorEq, rvals, rvC, result, C.known, V.noL, C.noL, S.noL, R.noL, Option.map, true_and, and_true, ge_iff_le, gt_iff_lt, implies_true, q_ite_t, q_ite_f, beq_iff_eq, bne_iff_ne, q_ne, Nat.reduceAdd, Nat.reducePow, Int.reducePow, Nat.reduceMul, Nat.reduceSub, Nat.reduceLeDiff, Nat.reduceLT, Nat.reduceEqDiff, Int.reduceNeg, Int.reduceLT, Int.reduceLE, Int.reduceEq, Int.reduceNe, Int.reduceAdd, Int.reduceSub, Int.reduceMul, Int.reduceToNat, Int.reduceBEq, Int.reduceBNe, T9b, T9, slotAtG, capIF, capF, cap_eta, Cap.cl, sub, List.take_succ_cons, List.take_zero, List.drop_zero, List.drop_succ_cons, e2, z3, z4, hap, a0, b0, w1, w2, w3, w4, k1, j1]
                        refine cast (congrArg (fun x => K (.s (.b x)) h) ?_) hR
                        rw [eq_comm]
                        simpa using o1
end Go.Proofs.Ythegocjfnjfkdaa

/- The arguments of a statement: what is read of them becomes values over read-only blocks; behind the call they read as before. -/
namespace Go.D
set_option linter.all false

inductive TY where
  | int (k : IntKind)
  | bool
  | slice (e : List TY)

mutual
/-- A cell of a type, over a heap of blocks. -/
def hasT (h : List Blk) : TY → S → Prop
  | .int k, s => ∃ n, s = .i k n ∧ (Lit.int k n).wf = true
  | .bool, s => ∃ b, s = .b b
  | .slice e, s => s = .ns ∨ ∃ (j n c : Nat) (E : List (List S)) (st : BK) (room : Nat), s = .sl (.g j) 0 n c ∧ n ≤ c ∧ c ≤ maxLen ∧ h[j]? = some ⟨st, E.flatten, room⟩ ∧ E.length = n ∧ (n ≠ 0 → st = .ro) ∧ st ≠ .rw ∧ ∀ x, x ∈ E → hasTs h e x
def hasTs (h : List Blk) : List TY → List S → Prop
  | [], [] => True
  | t :: ts, s :: ss => hasT h t s ∧ hasTs h ts ss
  | _, _ => False
end

/-- A heap of blocks that are only read. -/
structure RO (σ : Sg) (h : List Blk) (w : World) : Prop where
  ok : ∀ k B, h[k]? = some B → B.st ≠ .rw ∧ OkBlk σ w (.g k) B
  val : ∀ B, B ∈ h → vals h.length 0 B.cells = true

theorem RO.sim {σ : Sg} {h : List Blk} {w : World} (H : RO σ h w) : Sim σ h [] w := by
  refine ⟨fun r B hb => ?_, fun r r' B B' hb hb' hne hst hd => ?_, H.val, fun B hB => by cases hB⟩
  · cases r with
    | g k => exact (H.ok k B hb).2
    | l k => simp [blk] at hb
  · cases r with
    | g k => exact absurd hst (H.ok k B hb).1
    | l k => simp [blk] at hb

mutual
theorem hasT_mono {h h' : List Blk} : ∀ {t : TY} {s : S}, hasT h t s → hasT (h ++ h') t s
  | .int k, s, hs => hs
  | .bool, s, hs => hs
  | .slice e, s, hs => by
    rcases hs with hs | ⟨j, n, c, E, st, room, h1, h2, h3, h4, h5, h6, h7, h8⟩
    · exact .inl hs
    · exact .inr ⟨j, n, c, E, st, room, h1, h2, h3, by rw [List.getElem?_append_left (List.getElem?_eq_some_iff.1 h4).1]; exact h4, h5, h6, h7, fun x hx => hasTs_mono (h8 x hx)⟩
theorem hasTs_mono {h h' : List Blk} : ∀ {ts : List TY} {ss : List S}, hasTs h ts ss → hasTs (h ++ h') ts ss
  | [], [], _ => trivial
  | t :: ts, s :: ss, hs => ⟨hasT_mono hs.1, hasTs_mono hs.2⟩
  | [], _ :: _, hs => hs.elim
  | _ :: _, [], hs => hs.elim
end

/-! ### types, flattened -/
def tyFields (P : Program) (r : TypeId → Option (List TY)) : List Field → Nat → Option (List TY)
  | [], _ => some []
  | f :: fs, off => match r f.type, tyFields P r fs (off + P.cellsOf f.type) with
    | some l, some q => if f.offset = off ∧ l.length = P.cellsOf f.type then some (l ++ q) else none
    | _, _ => none

/-- The cells of a type. 'al': may there be slices? 'nest': may there be, in slices' elements? -/
def tyOf (P : Program) (nest : Bool) : Nat → Bool → TypeId → Option (List TY)
  | 0, _, _ => none
  | d + 1, al, t => match P.underlying t with
    | some (.int k) => some [.int k]
    | some .bool => some [.bool]
    | some (.slice e) => match tyOf P nest d nest e with
      | some l => if l.length = P.cellsOf e ∧ al = true ∧ 0 < l.length then some [.slice l] else none
      | none => none
    | some (.struct fs) => match tyFields P (tyOf P nest d al) fs.toList 0 with
      | some l => if l.length = P.cellsOf t then some l else none
      | none => none
    | some (.array n e) => match tyOf P nest d al e with
      | some l => if l.length = P.cellsOf e ∧ P.cellsOf t = n * P.cellsOf e then some (List.replicate n l).flatten else none
      | none => none
    | _ => none

/-- A slice's address is a plain one. -/
def plainV : Value → Prop
  | .slice (some a) _ _ => a.spot = none
  | _ => True

section
variable {H : Type} {enc : TypeId × Value → H} {P : Program} {w : World}

/-- Cells of such types become values over read-only blocks. -/
def Opens (w : World) (cs : List Value) (tys : List TY) : Prop :=
  ∀ (σ : Sg) (h : List Blk), RO σ h w → ∃ (h' : List Blk) (σ' : Sg) (ss : List S), (∀ k, k < h.length → σ' (.g k) = σ (.g k)) ∧ RO σ' (h ++ h') w ∧ hasTs (h ++ h') tys ss ∧ ss.map (S.tr σ') = cs ∧ vals (h ++ h').length 0 ss = true ∧ known ss = true

theorem hasTs_append {h : List Blk} : ∀ {t1 t2 : List TY} {s1 s2 : List S}, hasTs h t1 s1 → hasTs h t2 s2 → hasTs h (t1 ++ t2) (s1 ++ s2)
  | [], _, [], _, _, h2 => h2
  | _ :: _, _, _ :: _, _, h1, h2 => ⟨h1.1, hasTs_append h1.2 h2⟩
  | [], _, _ :: _, _, h1, _ => h1.elim
  | _ :: _, _, [], _, h1, _ => h1.elim

theorem hasTs_length {h : List Blk} : ∀ {ts : List TY} {ss : List S}, hasTs h ts ss → ss.length = ts.length
  | [], [], _ => rfl
  | _ :: _, _ :: _, h1 => by simp [hasTs_length h1.2]
  | [], _ :: _, h1 => h1.elim
  | _ :: _, [], h1 => h1.elim

/-- What is valid among the first blocks is translated alike. -/
theorem trs_old {σ σ' : Sg} {n : Nat} (hA : ∀ k, k < n → σ' (.g k) = σ (.g k)) {ss : List S} (hv : vals n 0 ss = true) : ss.map (S.tr σ') = ss.map (S.tr σ) := by
  simp only [vals, List.all_eq_true] at hv
  refine List.map_congr_left fun s hs => S.tr_congr (n := n) (m := 0) (fun r hr => ?_) s (hv s hs)
  cases r with
  | g k => exact hA k (by simpa [R.val] using hr)
  | l k => simp [R.val] at hr

theorem Opens.nil : Opens w [] [] := fun σ h H => ⟨[], σ, [], fun _ _ => rfl, by simpa using H, trivial, rfl, rfl, rfl⟩

theorem Opens.append {c1 c2 : List Value} {t1 t2 : List TY} (h1 : Opens w c1 t1) (h2 : Opens w c2 t2) : Opens w (c1 ++ c2) (t1 ++ t2) := fun σ h H => by
  obtain ⟨ha, σa, sa, a1, a2, a3, a4, a5, a6⟩ := h1 σ h H
  obtain ⟨hb, σb, sb, b1, b2, b3, b4, b5, b6⟩ := h2 σa (h ++ ha) a2
  refine ⟨ha ++ hb, σb, sa ++ sb, fun k hk => ?_, by rw [← List.append_assoc]; exact b2, ?_, ?_, ?_, ?_⟩
  · rw [b1 k (by simp; omega), a1 k hk]
  · rw [← List.append_assoc]; exact hasTs_append (hasTs_mono a3) b3
  · rw [List.map_append, b4, trs_old b1 a5, a4]
  · rw [← List.append_assoc]
    simp only [vals, List.all_append, Bool.and_eq_true]
    exact ⟨vals_mono (by simp) (Nat.le_refl _) a5, b5⟩
  · simp only [known, List.all_append, Bool.and_eq_true]
    exact ⟨a6, b6⟩

theorem Opens.one {v : Value} {t : TY} (h : ∀ σ : Sg, ∀ h : List Blk, ∃ s : S, hasT h t s ∧ s.tr σ = v ∧ s.val 0 0 = true ∧ V.known (.s s) = true) : Opens w [v] [t] := fun σ h0 H => by
  obtain ⟨s, e1, e2, e3, e4⟩ := h σ h0
  refine ⟨[], σ, [s], fun _ _ => rfl, by simpa using H, ⟨by simpa using e1, trivial⟩, by simp [e2], ?_, ?_⟩
  · simp only [vals, List.all_cons, List.all_nil, Bool.and_true]
    exact S.val_mono (Nat.zero_le _) (Nat.zero_le _) e3
  · rw [known_cons, e4]; rfl

/-- Many elements, one after the other. -/
theorem Opens.list {l : List TY} (C : Nat → List Value) : ∀ m : Nat, (∀ i, i < m → Opens w (C i) l) → ∀ (σ : Sg) (h : List Blk), RO σ h w → ∃ (h' : List Blk) (σ' : Sg) (E : List (List S)), (∀ k, k < h.length → σ' (.g k) = σ (.g k)) ∧ RO σ' (h ++ h') w ∧ E.length = m ∧
      (∀ x, x ∈ E → hasTs (h ++ h') l x) ∧ E.flatten.map (S.tr σ') = ((List.range m).map C).flatten ∧ vals (h ++ h').length 0 E.flatten = true ∧ known E.flatten = true
  | 0, _, σ, h, H => ⟨[], σ, [], fun _ _ => rfl, by simpa using H, rfl, fun x hx => absurd hx List.not_mem_nil, rfl, rfl, rfl⟩
  | m + 1, hC, σ, h, H => by
    obtain ⟨ha, σa, E, a1, a2, a3, a4, a5, a6, a7⟩ := Opens.list C m (fun i hi => hC i (by omega)) σ h H
    obtain ⟨hb, σb, sb, b1, b2, b3, b4, b5, b6⟩ := hC m (by omega) σa (h ++ ha) a2
    refine ⟨ha ++ hb, σb, E ++ [sb], fun k hk => ?_, by rw [← List.append_assoc]; exact b2, by simp [a3], fun x hx => ?_, ?_, ?_, ?_⟩
    · rw [b1 k (by simp; omega), a1 k hk]
    · rw [← List.append_assoc]
      rcases List.mem_append.1 hx with h1 | h1
      · exact hasTs_mono (a4 x h1)
      · simp only [List.mem_singleton] at h1; subst h1; exact b3
    · rw [List.flatten_append, List.map_append, trs_old b1 a6, a5, List.range_succ, List.map_append, List.flatten_append]
      simp [b4]
    · rw [← List.append_assoc, List.flatten_append, show [sb].flatten = sb by simp]
      simp only [vals, List.all_append, Bool.and_eq_true]
      exact ⟨vals_mono (by simp) (Nat.le_refl _) a6, b5⟩
    · rw [List.flatten_append, show [sb].flatten = sb by simp]
      simp only [known, List.all_append, Bool.and_eq_true]
      exact ⟨a7, b6⟩

/-- A slice of such elements. -/
theorem Opens.slice {l : List TY} {a : Addr} {len cap k : Nat} (ha : a.spot = none) (hk : l.length = k) (hlc : len ≤ cap) (hcm : cap ≤ maxLen) (C : Nat → List Value) (hC : ∀ i, i < len → Opens w (C i) l)
    (hcell : ∀ i j, i < len → j < k → ∃ v, (C i)[j]? = some v ∧ w.cell? (a.add (i * k + j)) = some v) (hlen : ∀ i, i < len → (C i).length = k) (hsz : len ≠ 0 → a.block < w.heap.size) : Opens w [.slice (some a) len cap] [.slice l] := fun σ h H => by
  obtain ⟨ha', σa, E, a1, a2, a3, a4, a5, a6, a7⟩ := Opens.list C len hC σ h H
  let n := (h ++ ha').length
  let σ' : Sg := fun r => if r = .g n then (a.block, a.off) else σa r
  have hσ : ∀ k, k < n → σ' (.g k) = σa (.g k) := fun k hk => by
    show (if R.g k = .g n then _ else _) = _
    rw [if_neg (by intro e; cases e; omega)]
  have hσn : σ' (.g n) = (a.block, a.off) := by
    show (if R.g n = .g n then _ else _) = _
    rw [if_pos rfl]
  have hEl : ∀ x, x ∈ E → x.length = k := fun x hx => by rw [hasTs_length (a4 x hx), hk]
  have hEt : E.flatten.map (S.tr σ') = ((List.range len).map C).flatten := by rw [trs_old hσ a6, a5]
  have hflat : ∀ (m : Nat) (q : Nat) (v : Value), m ≤ len → (((List.range m).map C).flatten)[q]? = some v → w.cell? (a.add q) = some v ∧ q < m * k := by
    intro m
    induction m with
    | zero => intro q v _ h; simp at h
    | succ m ih =>
      intro q v hm hq
      have hl : (((List.range m).map C).flatten).length = m * k := by
        have : ∀ m', m' ≤ len → (((List.range m').map C).flatten).length = m' * k := by
          intro m'
          induction m' with
          | zero => intro _; simp
          | succ m' ih' => intro hm'; rw [List.range_succ, List.map_append, List.flatten_append, List.length_append, ih' (by omega)]; simp [hlen m' (by omega), Nat.succ_mul]
        exact this m (by omega)
      rw [List.range_succ, List.map_append, List.flatten_append] at hq
      by_cases hlt : q < m * k
      · rw [List.getElem?_append_left (by omega)] at hq
        obtain ⟨h1, h2⟩ := ih q v (by omega) hq
        exact ⟨h1, by rw [Nat.succ_mul]; omega⟩
      · rw [List.getElem?_append_right (by omega), hl] at hq
        simp only [List.map_cons, List.map_nil, List.flatten_cons, List.flatten_nil, List.append_nil] at hq
        have hj : q - m * k < k := by
          have := (List.getElem?_eq_some_iff.1 hq).1
          rw [hlen m (by omega)] at this; exact this
        obtain ⟨v', h1, h2⟩ := hcell m (q - m * k) (by omega) hj
        rw [hq] at h1
        cases h1
        have e : m * k + (q - m * k) = q := by omega
        rw [e] at h2
        exact ⟨h2, by rw [Nat.succ_mul]; omega⟩
  let B : Blk := ⟨if len = 0 then .dead else .ro, E.flatten, 0⟩
  have hBst : B.st ≠ .rw := by
    show (if len = 0 then BK.dead else .ro) ≠ .rw
    split <;> simp
  have hn1 : (h ++ (ha' ++ [B])).length = n + 1 := by simp only [n, List.length_append, List.length_cons, List.length_nil]; omega
  refine ⟨ha' ++ [B], σ', [.sl (.g n) 0 len cap], fun k hk => ?_, ⟨fun k B' hB => ?_, fun B' hB => ?_⟩, ⟨.inr ⟨n, len, cap, E, _, 0, rfl, hlc, hcm, ?_, a3, fun h0 => if_neg h0, hBst, fun x hx => ?_⟩, trivial⟩, ?_, ?_, rfl⟩
  · rw [hσ k (by show k < (h ++ ha').length; simp; omega), a1 k hk]
  · rw [← List.append_assoc] at hB
    by_cases hk : k < n
    · rw [List.getElem?_append_left hk] at hB
      obtain ⟨c1, c2⟩ := a2.ok k B' hB
      refine ⟨c1, c2.move (n := n) (m := 0) (hσ k hk) (fun r hr => ?_) (a2.val B' (List.mem_of_getElem? hB)) (Nat.le_refl _) (fun _ => rfl)⟩
      cases r with
      | g i => exact hσ i (by simpa [R.val] using hr)
      | l i => simp [R.val] at hr
    · have hkn : k = n := by
        have := (List.getElem?_eq_some_iff.1 hB).1
        simp only [List.length_append, List.length_cons, List.length_nil] at this
        simp only [n, List.length_append] at hk ⊢
        omega
      subst hkn
      rw [List.getElem?_append_right (Nat.le_refl _), Nat.sub_self] at hB
      simp only [List.getElem?_cons_zero, Option.some.injEq] at hB
      subst hB
      refine ⟨hBst, ?_⟩
      unfold OkBlk
      show match (if len = 0 then BK.dead else .ro) with
        | .dead => True
        | .ro => _
        | .rw => _
      by_cases h0 : len = 0
      · rw [if_pos h0]; trivial
      · rw [if_neg h0]
        refine ⟨by rw [hσn]; exact hsz h0, fun i s hs _ => ?_⟩
        have h1 : (E.flatten.map (S.tr σ'))[i]? = some (s.tr σ') := by
          rw [List.getElem?_map, show E.flatten[i]? = some s from hs]; rfl
        rw [hEt] at h1
        have h2 := (hflat len i _ (Nat.le_refl _) h1).1
        have e : a.add i = adr σ' (.g n) i := by
          simp only [adr, hσn, Addr.add]
          cases a; simp only at ha; subst ha
          by_cases hi : i = 0
          · subst hi; simp
          · simp [hi]
        rw [← e]; exact h2
  · rw [hn1]
    rw [← List.append_assoc] at hB
    rcases List.mem_append.1 hB with hB | hB
    · exact vals_mono (Nat.le_succ n) (Nat.le_refl _) (a2.val B' hB)
    · simp only [List.mem_singleton] at hB
      subst hB
      exact vals_mono (Nat.le_succ n) (Nat.le_refl _) a6
  · rw [← List.append_assoc, List.getElem?_append_right (Nat.le_refl _), Nat.sub_self]; rfl
  · rw [← List.append_assoc]; exact hasTs_mono (a4 x hx)
  · simp only [List.map_cons, List.map_nil, S.tr, adr, hσn, Nat.add_zero]
    cases a; simp only at ha; subst ha; rfl
  · rw [hn1]; simp [vals, S.val, R.val]


theorem Opens.fields {d : TypeId → Option (List TY)} {cs : List Value} : ∀ (fs : List Field) (off : Nat) (tys : List TY), tyFields P d fs off = some tys → off + tys.length = cs.length →
      (∀ f, f ∈ fs → ∀ l, d f.type = some l → l.length = P.cellsOf f.type → f.offset + P.cellsOf f.type ≤ cs.length → Opens w ((cs.drop f.offset).take (P.cellsOf f.type)) l) → Opens w (cs.drop off) tys
  | [], off, tys, ht, hl, _ => by
    simp only [tyFields, Option.some.injEq] at ht
    subst ht
    rw [List.drop_eq_nil_of_le (by simp at hl; omega)]
    exact Opens.nil
  | f :: fs, off, tys, ht, hl, hf => by
    simp only [tyFields] at ht
    split at ht
    · rename_i l q h1 h2
      split at ht
      · rename_i hc
        cases ht
        obtain ⟨h3, h4⟩ := hc
        simp only [List.length_append] at hl
        have ih := Opens.fields fs (off + P.cellsOf f.type) q h2 (by omega) (fun g hg => hf g (List.mem_cons_of_mem _ hg))
        have h0 := hf f List.mem_cons_self l h1 h4 (by rw [h3]; omega)
        rw [h3] at h0
        have e : cs.drop off = (cs.drop off).take (P.cellsOf f.type) ++ cs.drop (off + P.cellsOf f.type) := by
          rw [← List.drop_drop, List.take_append_drop]
        rw [e]
        exact h0.append ih
      · cases ht
    · cases ht

theorem Opens.array {k : Nat} {l : List TY} (hk : l.length = k) : ∀ (n : Nat) (cs : List Value), cs.length = n * k → (∀ i, i < n → Opens w ((cs.drop (i * k)).take k) l) → Opens w cs (List.replicate n l).flatten
  | 0, cs, hl, _ => by
    have : cs = [] := by cases cs <;> simp_all
    subst this
    exact Opens.nil
  | n + 1, cs, hl, h => by
    have h0 := h 0 (by omega)
    simp only [Nat.zero_mul, List.drop_zero] at h0
    have ih := Opens.array hk n (cs.drop k) (by simp [hl, Nat.succ_mul]) (fun i hi => by
      have := h (i + 1) (by omega)
      rw [List.drop_drop]
      have e : k + i * k = (i + 1) * k := by rw [Nat.succ_mul]; omega
      rw [e]; exact this)
    have e : cs = cs.take k ++ cs.drop k := (List.take_append_drop _ _).symm
    rw [e, List.replicate_succ, List.flatten_cons]
    exact h0.append ih


theorem open_trod {nest : Bool} (hw : nest = true → ∀ a v, w.cell? a = some v → plainV v) {base : Nat} {spare : Nat → Bool} {held : Bool} : ∀ (d : Nat) (al : Bool) (n : Nat) (t : TypeId) (cs : List Value) (x : DataW H × List MemPlace) (tys : List TY),
    DataW.trod enc P w base spare held n t cs = some x → tyOf P nest d al t = some tys → (al = true → ∀ v, v ∈ cs → plainV v) → Opens w cs tys
  | 0, _, _, _, _, _, _, _, ht, _ => by simp [tyOf] at ht
  | d + 1, al, n, t, cs, x, tys, hx, ht, hp => by
    simp only [tyOf] at ht
    split at ht
    · rename_i k hu
      cases ht
      obtain ⟨m, rfl, _, hwf⟩ := DataW.trod_int hu hx
      exact Opens.one fun σ h => ⟨.i k m, ⟨m, rfl, hwf⟩, rfl, rfl, rfl⟩
    · rename_i hu
      cases ht
      obtain ⟨b, rfl, _⟩ := DataW.trod_bool hu hx
      exact Opens.one fun σ h => ⟨.b b, ⟨b, rfl⟩, rfl, rfl, rfl⟩
    · rename_i e hu
      split at ht
      · rename_i l hl
        split at ht
        · rename_i hc
          cases ht
          rcases DataW.trod_slice hu hx with ⟨rfl, _⟩ | ⟨a, len, cap, elems, rest, m, _, rfl, _, hb, hlc, hcm, hel, hE, _, _⟩
          · exact Opens.one fun σ h => ⟨.ns, .inl rfl, rfl, rfl, rfl⟩
          · have hget : ∀ i, i < len → ∃ cs', w.cells? base (a.add (i * P.cellsOf e)) (P.cellsOf e) = some cs' ∧ ∃ y, DataW.trod enc P w base spare held m e cs' = some y := fun i hi => by
              have := hE i hi
              rw [List.getElem?_eq_getElem (by omega)] at this
              obtain ⟨cs', h1, h2⟩ := Option.bind_eq_some_iff.1 this
              exact ⟨cs', h1, _, h2⟩
            let C : Nat → List Value := fun i => (w.cells? base (a.add (i * P.cellsOf e)) (P.cellsOf e)).getD []
            have hC : ∀ i, i < len → w.cells? base (a.add (i * P.cellsOf e)) (P.cellsOf e) = some (C i) := fun i hi => by
              obtain ⟨cs', h1, _⟩ := hget i hi
              simp only [C, h1, Option.getD_some]
            have hadd : ∀ i j, (a.add i).add j = a.add (i + j) := fun i j => by
              simp only [Addr.add]
              by_cases hi : i = 0
              · subst hi; simp
              · by_cases hj : j = 0
                · subst hj; simp [hi]
                · simp [hi, hj, Nat.add_assoc]
            refine Opens.slice (k := P.cellsOf e) (hp hc.2.1 _ (List.mem_singleton.2 rfl)) hc.1 hlc hcm C (fun i hi => ?_) (fun i j hi hj => ?_) (fun i hi => (World.cells?_some (hC i hi)).2.1) (fun h0 => ?_)
            · obtain ⟨cs', h1, y, h2⟩ := hget i hi
              rw [hC i hi] at h1
              cases h1
              refine open_trod hw d nest m e (C i) y l h2 hl (fun hn v hv => ?_)
              obtain ⟨j, hj, rfl⟩ := List.mem_iff_getElem.1 hv
              obtain ⟨_, h3, h4⟩ := World.cells?_some (hC i hi)
              refine hw hn ((a.add (i * P.cellsOf e)).add j) _ ?_
              rw [h4 j (by omega), List.getElem?_eq_getElem hj]
            · obtain ⟨_, h3, h4⟩ := World.cells?_some (hC i hi)
              have h5 := h4 j hj
              rw [List.getElem?_eq_getElem (by omega), hadd] at h5
              exact ⟨_, List.getElem?_eq_getElem (by omega), h5⟩
            · have h3 := hC 0 (by omega)
              obtain ⟨_, h4, h5⟩ := World.cells?_some h3
              have h6 := h5 0 (by have := hc.1; omega)
              rw [List.getElem?_eq_getElem (by have := hc.1; omega), hadd] at h6
              simp only [Nat.zero_mul, Nat.add_zero, Addr.add, if_true] at h6
              unfold World.cell? at h6
              cases hb : w.heap[a.block]? with
              | none => rw [hb] at h6; cases h6
              | some o => exact (Array.getElem?_eq_some_iff.1 hb).1
        · cases ht
      · cases ht
    · rename_i fs hu
      split at ht
      · rename_i l hl
        split at ht
        · rename_i hlen
          have ht' : l = tys := by simpa using ht
          rw [← ht']
          obtain ⟨xs, m, _, _, hcs, hxs, hf⟩ := DataW.trod_struct hu hx
          have := Opens.fields (w := w) (cs := cs) fs.toList 0 l hl (by omega) (fun f hf' q hq hql hle => by
            obtain ⟨i, hi, rfl⟩ := List.mem_iff_getElem.1 hf'
            have hi' : i < fs.size := by simpa using hi
            have h1 := hf i fs[i] (Array.getElem?_eq_getElem hi')
            rw [List.getElem?_eq_getElem (by omega)] at h1
            exact open_trod hw d al m _ _ _ q h1 hq (fun ha v hv => hp ha v (List.mem_of_mem_drop (List.mem_of_mem_take hv))))
          simpa using this
        · cases ht
      · cases ht
    · rename_i m e hu
      split at ht
      · rename_i l hl
        split at ht
        · rename_i hc
          cases ht
          obtain ⟨xs, f, _, _, hcs, hxs, hf⟩ := DataW.trod_array hu hx
          refine Opens.array (k := P.cellsOf e) hc.1 m cs (by rw [hcs, hc.2]) (fun i hi => ?_)
          have h1 := hf i hi
          rw [List.getElem?_eq_getElem (by omega)] at h1
          exact open_trod hw d al f _ _ _ l h1 hl (fun ha v hv => hp ha v (List.mem_of_mem_drop (List.mem_of_mem_take hv)))
        · cases ht
      · cases ht
    · cases ht

end

end Go.D

/- A statement's step: its arguments opened, its answer closed. -/
namespace Go.D
set_option linter.all false
open Go.ChangeShapes Go.WideShapes
section
variable {H : Type} {enc : TypeId × Value → H} {P : Program} {W W' : World}

/-- Behind the call each old block is as it was. -/
structure Still (W W' : World) : Prop where
  os : W'.os = W.os
  output : W'.output = W.output
  heap : ∀ b, b < W.heap.size → W'.heap[b]? = W.heap[b]?

theorem Still.keptBut (h : Still W W') (may : MemPlace → Prop) : W.keptBut W' may := by
  refine ⟨h.os, h.output, fun i hi => ?_⟩
  rw [h.heap i hi]
  split
  · rename_i e1 e2
    cases e1.symm.trans e2
    exact ⟨rfl, rfl, rfl, fun _ _ => rfl⟩
  · rename_i e1 e2
    cases e1.symm.trans e2
    exact .inr ⟨rfl, rfl⟩
  · rfl

theorem Still.cell (h : Still W W') {a : Addr} (ha : a.block < W.heap.size) : W'.cell? a = W.cell? a := by
  simp only [World.cell?, h.heap a.block ha]

theorem Still.frozen (h : Still W W') {a : Addr} (ha : a.block < W.heap.size) : W'.frozen? a = W.frozen? a := by
  simp only [World.frozen?, h.heap a.block ha]

theorem Still.same (h : Still W W') {p : MemPlace} (hp : p.block < W.heap.size) : W.sameAt W' p := by
  cases p with
  | cell b off => exact h.cell hp
  | map b => exact h.heap b hp

/-- The statement's answer: true; the arguments read as before. -/
theorem law_post {T : TypeId → Prop} {f : Func} {s : ChangeSpec} {args : Array Value} {ds gs : List (DataW H)} {before : List MemPlace} {bt : TypeId} (K : Kids P T) (hz : ∀ t e, T t → P.underlying t = some (.slice e) → 0 < P.cellsOf e)
    (hT : ∀ t, t ∈ f.params.toList → T t) (hv : s.vars = []) (hbt : P.underlying bt = some .bool) (hrt : f.resultTypes = #[bt]) (hfn : s.fn H (ds ++ gs) = { results := [.lit (.bool true)], args := ds }) {apart : Bool}
    (hW : DataW.Whole enc P f.params.toList s.vars apart W args.toList ds gs before) (hS : Still W W') {fresh handsOn : Bool} :
    s.post enc P f apart fresh handsOn false W args (.bool true) W' := by
  obtain ⟨p, q, hA, hV, hb, hfz, hnd⟩ := id hW
  have hlt : ∀ x, x ∈ before → x.block < W.heap.size := fun x hx => hW.lt x hx
  rw [hv] at hV
  obtain ⟨rfl, rfl⟩ := trodVars_none hV
  simp only [List.append_nil] at hb hfn
  subst hb
  have hcarry : ∀ {ts : List TypeId} {vs : List Value} {ds : List (DataW H)} {p : List MemPlace} {sp : Nat → Bool}, DataW.TrodAll enc P W 0 sp true ts vs ds p → (∀ x, x ∈ p → x.block < W.heap.size) → DataW.TrodAll enc P W' 0 sp true ts vs ds p := by
    intro ts
    induction ts with
    | nil =>
      intro vs ds p sp h _
      cases vs <;> cases ds <;> first | exact h | exact h.elim
    | cons t ts ih =>
      intro vs ds p sp h hp
      match vs, ds, h with
      | v :: vs, d :: ds, ⟨p1, p2, ⟨n, h1⟩, h2, e⟩ =>
        exact ⟨p1, p2, ⟨n, DataW.trod_carry n _ _ _ h1 (fun x hx => hS.same (hp x (by rw [e]; exact List.mem_append_left _ hx)))⟩, ih h2 (fun x hx => hp x (by rw [e]; exact List.mem_append_right _ hx)), e⟩
  have hres : ∀ (b : Nat) (sp : Nat → Bool) (hd : Bool), DataW.TrodAll enc P W' b sp hd f.resultTypes.toList ((Value.bool true).resultList f.resultTypes.size) (s.fn H (ds ++ [])).results [] := fun b sp hd => by
    simp only [List.append_nil, hfn, hrt]
    exact ⟨[], [], ⟨1, by simp [DataW.trod, Value.cells, hbt]⟩, rfl, rfl⟩
  have hsp : ∀ sp : Nat → Bool, (∀ x, x ∈ before → sp x.block = true) → DataW.TrodAll enc P W' 0 sp true f.params.toList args.toList (s.fn H (ds ++ [])).args before := fun sp hx => by
    simp only [List.append_nil, hfn]
    exact hcarry (DataW.TrodAll.respare K hz hT hA hx) hlt
  have hvars : ∀ sp : Nat → Bool, DataW.TrodVars enc P W' sp s.vars (s.fn H (ds ++ [])).vars [] := fun sp => by
    simp only [List.append_nil, hfn, hv]; rfl
  refine ⟨ds, [], before, [], before, [], hW, hres _ _ _, hsp _ (fun x hx => decide_eq_true (hlt x hx)), hvars _, hS.keptBut _, fun h => Bool.noConfusion h⟩
end
end Go.D

/- A statement's row: a law whose small code answers true over whatever read-only arguments holds. -/
namespace Go.D
set_option linter.all false
open Go.ChangeShapes Go.WideShapes

/-- A parameter: is it an aggregate; its cells. -/
def paramTy (P : Program) (nest : Bool) (d : Nat) (t : TypeId) : Option (Bool × List TY) :=
  match tyOf P nest d true t with
  | some l => match P.underlying t with
    | some (.struct _) => some (true, l)
    | some (.array _ _) => some (true, l)
    | some (.int _) => some (false, l)
    | some .bool => some (false, l)
    | some (.slice _) => some (false, l)
    | _ => none
  | none => none
def paramTys (P : Program) (nest : Bool) (d : Nat) : List TypeId → Option (List (Bool × List TY))
  | [] => some []
  | t :: ts => match paramTy P nest d t, paramTys P nest d ts with
    | some x, some l => some (x :: l)
    | _, _ => none

/-- A parameter's value. -/
def hasV (h : List Blk) : Bool × List TY → V → Prop
  | (true, l), v => ∃ ss, v = .agg ss ∧ hasTs h l ss
  | (false, l), v => ∃ s, v = .s s ∧ hasTs h l [s]
def hasVs (h : List Blk) : List (Bool × List TY) → List V → Prop
  | [], [] => True
  | t :: ts, v :: vs => hasV h t v ∧ hasVs h ts vs
  | _, _ => False

theorem hasV_mono {h h' : List Blk} {t : Bool × List TY} {v : V} (H : hasV h t v) : hasV (h ++ h') t v := by
  obtain ⟨b, l⟩ := t
  cases b with
  | true => obtain ⟨ss, e, H⟩ := H; exact ⟨ss, e, hasTs_mono H⟩
  | false => obtain ⟨s, e, H⟩ := H; exact ⟨s, e, hasTs_mono H⟩

section
variable {H : Type} {enc : TypeId × Value → H} {P : Program} {w : World}

theorem V.tr_old {σ σ' : Sg} {n : Nat} (hA : ∀ k, k < n → σ' (.g k) = σ (.g k)) {v : V} (hv : v.val n 0 = true) : v.tr σ' = v.tr σ :=
  V.tr_congr (n := n) (m := 0) (fun r hr => by
    cases r with
    | g k => exact hA k (by simpa [R.val] using hr)
    | l k => simp [R.val] at hr) v hv

theorem open_arg {nest : Bool} (hw : nest = true → ∀ a v, w.cell? a = some v → plainV v) {r : Reach} {base : Nat} {t : TypeId} {v : Value} {d : DataW H} {p : List MemPlace} {D : Nat} {x : Bool × List TY} {sp : Nat → Bool} {held : Bool} {b0 : Nat}
    (hok : Value.okWide P w r base t v) (ht : DataW.Trod enc P w b0 sp held t v d p) (hx : paramTy P nest D t = some x) :
    ∀ (σ : Sg) (h : List Blk), RO σ h w → ∃ (h' : List Blk) (σ' : Sg) (u : V), (∀ k, k < h.length → σ' (.g k) = σ (.g k)) ∧ RO σ' (h ++ h') w ∧ hasV (h ++ h') x u ∧ u.tr σ' = v ∧ u.val (h ++ h').length 0 = true ∧ u.known = true := by
  obtain ⟨n, ht⟩ := ht
  unfold paramTy at hx
  split at hx
  · rename_i l hl
    have hcell : ∀ (t : TypeId) (v : Value), Cell.okWide P w r base t v → plainV v := fun t v hc => by
      unfold plainV
      split
      · rename_i a len cap
        unfold Cell.okWide at hc
        split at hc
        any_goals (rename_i e1 e2; first | cases e2 | skip)
        unfold Cell.ok at hc
        split at hc
        any_goals (rename_i e1 e2; first | cases e2 | skip)
        all_goals first | exact hc.2.2.2.1 | exact hc.elim | skip
      · trivial
    have agg : ∀ cs, v = .agg cs → Row.okWide P w r base t cs → x = (true, l) → ∀ (σ : Sg) (h : List Blk), RO σ h w → ∃ (h' : List Blk) (σ' : Sg) (u : V), (∀ k, k < h.length → σ' (.g k) = σ (.g k)) ∧ RO σ' (h ++ h') w ∧ hasV (h ++ h') x u ∧ u.tr σ' = v ∧ u.val (h ++ h').length 0 = true ∧ u.known = true := by
      intro cs hv hr hx σ h hR
      subst hv; subst hx
      obtain ⟨h', σ', ss, a1, a2, a3, a4, a5, a6⟩ := open_trod hw D true n t cs.toList (d, p) l ht hl (fun _ v hv => by
        obtain ⟨ts, _, _, hcs⟩ := hr
        obtain ⟨i, hi, rfl⟩ := List.mem_iff_getElem.1 hv
        obtain ⟨u, _, h2⟩ := hcs i cs.toList[i] (by simp at hi; simp [hi])
        exact hcell u _ h2) σ h hR
      refine ⟨h', σ', .agg ss, a1, a2, ⟨ss, rfl, a3⟩, ?_, a5, a6⟩
      simp only [V.tr, trs, a4, Array.toArray_toList]
    have one : v.cells = #[v] → plainV v → x = (false, l) → ∀ (σ : Sg) (h : List Blk), RO σ h w → ∃ (h' : List Blk) (σ' : Sg) (u : V), (∀ k, k < h.length → σ' (.g k) = σ (.g k)) ∧ RO σ' (h ++ h') w ∧ hasV (h ++ h') x u ∧ u.tr σ' = v ∧ u.val (h ++ h').length 0 = true ∧ u.known = true := by
      intro hc hp hx σ h hR
      subst hx
      rw [hc] at ht
      obtain ⟨h', σ', ss, a1, a2, a3, a4, a5, a6⟩ := open_trod hw D true n t [v] (d, p) l ht hl (fun _ u hu => by
        simp only [List.mem_singleton] at hu; subst hu; exact hp) σ h hR
      match ss, a4 with
      | [s], a4 =>
        simp only [List.map_cons, List.map_nil, List.cons.injEq, and_true] at a4
        refine ⟨h', σ', .s s, a1, a2, ⟨s, rfl, a3⟩, a4, ?_, ?_⟩
        · simpa [vals, V.val] using a5
        · simpa [known_cons, known_nil] using a6
    unfold Value.okWide at hok
    split at hx <;> rename_i hu <;> simp only [hu, Option.some.injEq] at hok hx
    · obtain ⟨cs, hv, _, hr⟩ := hok; exact agg cs hv hr hx.symm
    · obtain ⟨cs, hv, _, hr⟩ := hok; exact agg cs hv hr hx.symm
    · refine one ?_ (hcell _ _ hok) hx.symm
      unfold Cell.okWide at hok; rw [hu] at hok
      cases v <;> first | rfl | (simp [Cell.ok, hu] at hok)
    · refine one ?_ (hcell _ _ hok) hx.symm
      unfold Cell.okWide at hok; rw [hu] at hok
      cases v <;> first | rfl | (simp [Cell.ok, hu] at hok)
    · refine one ?_ (hcell _ _ hok) hx.symm
      unfold Cell.okWide at hok; rw [hu] at hok
      cases v <;> first | rfl | (simp [Cell.ok, hu] at hok)
    · cases hx
  · cases hx

theorem open_args {nest : Bool} (hw : nest = true → ∀ a v, w.cell? a = some v → plainV v) {r : Reach} {base D : Nat} {sp : Nat → Bool} {held : Bool} {b0 : Nat} : ∀ (ts : List TypeId) (vs : List Value) (ds : List (DataW H)) (p : List MemPlace) (xs : List (Bool × List TY)),
    (∀ (j : Nat) t v, ts[j]? = some t → vs[j]? = some v → Value.okWide P w r base t v) → DataW.TrodAll enc P w b0 sp held ts vs ds p → paramTys P nest D ts = some xs →
    ∀ (σ : Sg) (h : List Blk), RO σ h w → ∃ (h' : List Blk) (σ' : Sg) (us : List V), (∀ k, k < h.length → σ' (.g k) = σ (.g k)) ∧ RO σ' (h ++ h') w ∧ hasVs (h ++ h') xs us ∧ us.map (V.tr σ') = vs ∧ us.all (V.val (h ++ h').length 0) = true ∧ us.all V.known = true
  | [], vs, ds, p, xs, _, ht, hx => fun σ h hR => by
    obtain ⟨rfl, rfl, rfl⟩ := trodAll_nil ht
    simp only [paramTys, Option.some.injEq] at hx
    subst hx
    exact ⟨[], σ, [], fun _ _ => rfl, by simpa using hR, trivial, rfl, rfl, rfl⟩
  | t :: ts, vs, ds, p, xs, hok, ht, hx => fun σ h hR => by
    obtain ⟨v, vs', d, ds', p', q, rfl, rfl, rfl, h0, h1⟩ := trodAll_cons ht
    simp only [paramTys] at hx
    split at hx
    · rename_i x l hx1 hx2
      cases hx
      obtain ⟨ha, σa, u, a1, a2, a3, a4, a5, a6⟩ := open_arg hw (hok 0 t v rfl rfl) h0 hx1 σ h hR
      obtain ⟨hb, σb, us, b1, b2, b3, b4, b5, b6⟩ := open_args hw ts vs' ds' q l (fun j t v ht hv => hok (j + 1) t v (by simpa using ht) (by simpa using hv)) h1 hx2 σa (h ++ ha) a2
      refine ⟨ha ++ hb, σb, u :: us, fun k hk => ?_, by rw [← List.append_assoc]; exact b2, ?_, ?_, ?_, ?_⟩
      · rw [b1 k (by simp; omega), a1 k hk]
      · rw [← List.append_assoc]; exact ⟨hasV_mono a3, b3⟩
      · rw [List.map_cons, b4, V.tr_old b1 a5, a4]
      · rw [← List.append_assoc, List.all_cons, Bool.and_eq_true]
        exact ⟨V.val_mono (by simp) (Nat.le_refl _) a5, b5⟩
      · rw [List.all_cons, Bool.and_eq_true]; exact ⟨a6, b6⟩
    · cases hx
end

/-- A law's spec: over whatever arguments it answers true. -/
def Law (S : FSpec) (xs : List (Bool × List TY)) : Prop := ∀ (h : List Blk) (us : List V), hasVs h xs us → clean h.length h = true → S us h fun v _ => v = .s (.b true)

theorem law_calls {P : Program} {H : Type} {enc : TypeId × Value → H} {W : World} {f : FuncId} {S : FSpec} {nest : Bool} {r : Reach} {base D : Nat} {ts : List TypeId} {args : Array Value} {ds : List (DataW H)} {p : List MemPlace} {xs : List (Bool × List TY)} {sp : Nat → Bool} {held : Bool} {b0 : Nat}
    (hS : Snd P f S) (hL : Law S xs) (hw : nest = true → ∀ a v, W.cell? a = some v → plainV v) (hok : ∀ (j : Nat) t v, ts[j]? = some t → args[j]? = some v → Value.okWide P W r base t v) (ht : DataW.TrodAll enc P W b0 sp held ts args.toList ds p) (hx : paramTys P nest D ts = some xs) :
    Calls P f args W fun e W' => e = .returned (.bool true) ∧ Still W W' := by
  have hR0 : RO (fun _ => (0, 0)) [] W := ⟨fun k B hB => by simp at hB, fun B hB => by cases hB⟩
  obtain ⟨h, σ, us, _, hR, hV, he, hval, hk⟩ := open_args hw ts args.toList ds p xs (fun j t v h1 h2 => hok j t v h1 (by simpa using h2)) ht hx _ [] hR0
  simp only [List.nil_append] at hR hV hval
  have hcl : clean h.length h = true := by
    simp only [clean, List.all_eq_true]
    exact hR.val
  have hc := hS σ h W us _ hR.sim hval hk (hL h us hV hcl)
  have ha : (us.map (V.tr σ)).toArray = args := by rw [he]
  rw [ha] at hc
  refine hc.mono fun e W' ⟨v, h', σ', e1, _, _, hI, e2⟩ => ?_
  subst e2
  refine ⟨e1, hI.kept.same.os, hI.kept.same.output, fun b hb => hI.kept.keep b hb fun k B hB hst => ?_⟩
  exact absurd hst (hR.ok k B hB).1

/-! ### the row -/
def slicesFull (P : Program) : Bool := (List.range P.types.size).all fun t => match P.underlying t with
  | some (.slice e) => decide (0 < P.cellsOf e)
  | _ => true

theorem trodAll_length {H : Type} {enc : TypeId × Value → H} {P : Program} {w : World} {b0 : Nat} {sp : Nat → Bool} {held : Bool} : ∀ {ts : List TypeId} {vs : List Value} {ds : List (DataW H)} {p : List MemPlace}, DataW.TrodAll enc P w b0 sp held ts vs ds p → ds.length = ts.length
  | [], vs, ds, p, h => by obtain ⟨_, rfl, _⟩ := trodAll_nil h; rfl
  | t :: ts, vs, ds, p, h => by
    obtain ⟨v, vs', d, ds', p', q, rfl, rfl, rfl, _, h1⟩ := trodAll_cons h
    simp [trodAll_length h1]

/-- What is asked of the program and the law's function, by reckoning. -/
structure RowOk (P : Program) (f : FuncId) (fn : Func) (s : ChangeSpec) (xs : List (Bool × List TY)) : Prop where
  own : ownKnob P.godebug = none
  noInit : P.inits.idxOf? f = none
  isf : P.funcs[f]? = some fn
  laid : laidOutB P = true
  rowed : mapsRowed P = true
  full : slicesFull P = true
  params : fn.params.toList.all (fun t => decide (t < P.types.size)) = true
  vars : s.vars = []
  ret : ∃ bt, fn.resultTypes = #[bt] ∧ P.underlying bt = some .bool
  spec : ∀ (H : Type) (ds : List (DataW H)), ds.length = fn.params.toList.length → s.fn H ds = { results := [.lit (.bool true)], args := ds }
  tys : ∃ D, paramTys P false D fn.params.toList = some xs

theorem RowOk.calls {P : Program} {f : FuncId} {fn : Func} {s : ChangeSpec} {xs : List (Bool × List TY)} (R : RowOk P f fn s xs) {S : FSpec} (hS : Snd P f S) (hL : Law S xs)
    {H : Type} {enc : TypeId × Value → H} {W : World} {base : Nat} {r : Reach} {args : Array Value} {ds gs : List (DataW H)} {before : List MemPlace} {apart fresh handsOn : Bool}
    (hval : ∀ (j : Nat) t v, fn.params[j]? = some t → args[j]? = some v → Value.okWide P W r base t v) (hW : DataW.Whole enc P fn.params.toList s.vars apart W args.toList ds gs before) :
    Calls P f args W fun e W' => ∃ v, e = .returned v ∧ s.post enc P fn apart fresh handsOn false W args v W' := by
  obtain ⟨D, hx⟩ := R.tys
  obtain ⟨bt, hrt, hbt⟩ := R.ret
  obtain ⟨p, q, hA, hV, hb, hfz, hnd⟩ := id hW
  have hc := law_calls (nest := false) hS hL (fun h => by cases h) (fun j t v h1 h2 => hval j t v (by simpa using h1) h2) hA hx
  refine hc.mono fun e W' ⟨he, hst⟩ => ⟨_, he, ?_⟩
  have hgs : gs = [] := by
    rw [R.vars] at hV; exact (trodVars_none hV).1
  subst hgs
  refine law_post (kids_rows R.laid R.rowed) (fun t e ht hu => ?_) (fun t ht => ?_) R.vars hbt hrt ?_ hW hst
  · have := R.full
    simp only [slicesFull, List.all_eq_true, List.mem_range] at this
    have := this t ht
    rw [hu] at this
    simpa using this
  · have := R.params
    simp only [List.all_eq_true, decide_eq_true_eq] at this
    exact this t ht
  · simp only [List.append_nil]
    exact R.spec H ds (trodAll_length hA)

theorem RowOk.lifted {C : Checked} {f : FuncId} {fn : Func} {s : ChangeSpec} {xs : List (Bool × List TY)} (R : RowOk C.prog f fn s xs) {S : FSpec} (hS : Snd C.prog f S) (hL : Law S xs) {os : Os} (started : os.Started) {H : Type} {enc : TypeId × Value → H} {conds : List PathCond} {apart fresh handsOn : Bool}
    (witness : ∃ (w : World) (tape : Tape) (i : Input), w.os = os ∧ (w.forCall tape i).Shaped C.prog ∧ i.vars = [] ∧ Input.okWide C.prog (w.forCall tape i) .any w.heap.size f i ∧
      s.pre6 enc C.prog fn conds apart (w.forCall tape i).memory i.args ∧ ({} : Assume).holds C.prog (lone (Frame.enter C.prog f i.args .normal) [] (w.forCall tape i))) :
    ReturnsInHanded {} C os f .any (s.pre6 enc C.prog fn conds apart) (s.post enc C.prog fn apart fresh handsOn false) :=
  returnsInHanded_of_change R.own started R.noInit R.isf witness fun _ _ _ _ _ _ hval hW _ _ => R.calls hS hL hval hW

theorem RowOk.lifted_upto {C : Checked} {f : FuncId} {fn : Func} {s : ChangeSpec} {xs : List (Bool × List TY)} (R : RowOk C.prog f fn s xs) {S : FSpec} (hS : Snd C.prog f S) (hL : Law S xs) {os : Os} (started : os.Started) {H : Type} {enc : TypeId × Value → H} {conds : List PathCond} {apart fresh handsOn : Bool} {so : OpenSpec} {k : (H : Type) → List (DataW H) → Bool} {F : Stop.Interp}
    (hk : so.cond = some k) (hs : so.at F = s) (hso : so.vars = s.vars)
    (witness : ∃ (w : World) (tape : Tape) (i : Input), w.os = os ∧ (w.forCall tape i).Shaped C.prog ∧ i.vars = [] ∧ Input.okWide C.prog (w.forCall tape i) .any w.heap.size f i ∧
      so.pre6 enc C.prog fn conds apart (w.forCall tape i).memory i.args ∧ ({} : Assume).holds C.prog (lone (Frame.enter C.prog f i.args .normal) [] (w.forCall tape i))) :
    ReturnsInHanded {} C os f .any (so.pre6 enc C.prog fn conds apart) ((so.at F).post enc C.prog fn apart fresh handsOn false) :=
  returnsInHanded_of_cond hk R.own started R.noInit R.isf witness fun W base args ds gs before hval hW _ _ _ => by
    rw [hs]; exact R.calls hS hL hval (by rw [← hso]; exact hW)

end Go.D

/- The facts of the rows of this seat. -/
namespace Go.Proofs.Ythegocjfnjfkdaa
open Go.D
set_option linter.all false
set_option maxRecDepth 100000

theorem own : ownKnob Try.prog.godebug = none := by kernel_rfl
theorem laid : laidOutB Try.prog = true := by kernel_rfl
theorem rowed : mapsRowed Try.prog = true := by kernel_rfl
theorem full : slicesFull Try.prog = true := by kernel_rfl

theorem hasTs_cons {h : List Blk} {t : TY} {ts : List TY} {ss : List S} (H : hasTs h (t :: ts) ss) : ∃ s ss', ss = s :: ss' ∧ hasT h t s ∧ hasTs h ts ss' := by
  cases ss with
  | nil => exact H.elim
  | cons s ss => exact ⟨s, ss, rfl, H.1, H.2⟩
theorem hasTs_nil {h : List Blk} {ss : List S} (H : hasTs h [] ss) : ss = [] := by
  cases ss with
  | nil => rfl
  | cons s ss => exact H.elim
theorem hasT_int {h : List Blk} {k : IntKind} {s : S} (H : hasT h (.int k) s) : ∃ n, s = .i k n ∧ (Lit.int k n).wf = true := H
theorem hasT_bool {h : List Blk} {s : S} (H : hasT h .bool s) : ∃ b, s = .b b := H
/-- The arguments, one by one. -/
theorem law1 {h : List Blk} {x : Bool × List TY} {us : List V} (H : hasVs h [x] us) : ∃ u, us = [u] ∧ hasV h x u := by
  match us, H with
  | [u], H => exact ⟨u, rfl, H.1⟩
  | [], H => exact H.elim
  | _ :: _ :: _, H => exact H.2.elim
theorem law2 {h : List Blk} {x y : Bool × List TY} {us : List V} (H : hasVs h [x, y] us) : ∃ u v, us = [u, v] ∧ hasV h x u ∧ hasV h y v := by
  match us, H with
  | [u, v], H => exact ⟨u, v, rfl, H.1, H.2.1⟩
  | [], H => exact H.elim
  | [_], H => exact H.2.elim
  | _ :: _ :: _ :: _, H => exact H.2.2.elim
theorem law3 {h : List Blk} {x y z : Bool × List TY} {us : List V} (H : hasVs h [x, y, z] us) : ∃ u v w, us = [u, v, w] ∧ hasV h x u ∧ hasV h y v ∧ hasV h z w := by
  match us, H with
  | [u, v, w], H => exact ⟨u, v, w, rfl, H.1, H.2.1, H.2.2.1⟩
  | [], H => exact H.elim
  | [_], H => exact H.2.elim
  | [_, _], H => exact H.2.2.elim
  | _ :: _ :: _ :: _ :: _, H => exact H.2.2.2.elim
theorem hasV_int {h : List Blk} {k : IntKind} {v : V} (H : hasV h (false, [.int k]) v) : ∃ n, v = .s (.i k n) ∧ (Lit.int k n).wf = true := by
  obtain ⟨s, rfl, ⟨n, rfl, hn⟩, _⟩ := H
  exact ⟨n, rfl, hn⟩

/-- A slice of elements that are read one by one. -/
theorem hasT_arr {α : Type} {c : α → List S} {h : List Blk} {e : List TY} (hd : ∀ ss, hasTs h e ss → ∃ x, ss = c x) : ∀ (E : List (List S)), (∀ x, x ∈ E → hasTs h e x) → ∃ L : List α, E.flatten = arr c L ∧ L.length = E.length
  | [], _ => ⟨[], rfl, rfl⟩
  | x :: E, H => by
    obtain ⟨y, rfl⟩ := hd x (H x List.mem_cons_self)
    obtain ⟨L, e1, e2⟩ := hasT_arr hd E (fun z hz => H z (List.mem_cons_of_mem _ hz))
    exact ⟨y :: L, by simp [arr, e1], by simp [e2]⟩
end Go.Proofs.Ythegocjfnjfkdaa

/- Caps as arguments of a statement. -/
namespace Go.Proofs.Ythegocjfnjfkdaa
open Go.D
set_option linter.all false
set_option maxRecDepth 100000

abbrev CapT : List TY := [.int .i64, .int .i64, .int .i64, .int .i64, .int .i64, .int .i64, .int .i64, .int .i64, .int .i64, .int .i64, .int .i64]
theorem hasTs_cap {h : List Blk} {ts : List TY} {ss : List S} (H : hasTs h (CapT ++ ts) ss) : ∃ (c : Cap) (ss' : List S), ss = c.cl ++ ss' ∧ hasTs h ts ss' := by
  obtain ⟨_, _, rfl, ⟨a, rfl, _⟩, H0⟩ := hasTs_cons H
  obtain ⟨_, _, rfl, ⟨b, rfl, _⟩, H1⟩ := hasTs_cons H0
  obtain ⟨_, _, rfl, ⟨c, rfl, _⟩, H2⟩ := hasTs_cons H1
  obtain ⟨_, _, rfl, ⟨d, rfl, _⟩, H3⟩ := hasTs_cons H2
  obtain ⟨_, _, rfl, ⟨e, rfl, _⟩, H4⟩ := hasTs_cons H3
  obtain ⟨_, _, rfl, ⟨g, rfl, _⟩, H5⟩ := hasTs_cons H4
  obtain ⟨_, _, rfl, ⟨i, rfl, _⟩, H6⟩ := hasTs_cons H5
  obtain ⟨_, _, rfl, ⟨j, rfl, _⟩, H7⟩ := hasTs_cons H6
  obtain ⟨_, _, rfl, ⟨k, rfl, _⟩, H8⟩ := hasTs_cons H7
  obtain ⟨_, _, rfl, ⟨l, rfl, _⟩, H9⟩ := hasTs_cons H8
  obtain ⟨_, _, rfl, ⟨m, rfl, _⟩, H10⟩ := hasTs_cons H9
  exact ⟨⟨a, b, c, d, e, g, i, j, k, l, m⟩, _, rfl, H10⟩
theorem hasV_cap {h : List Blk} {v : V} (H : hasV h (true, CapT) v) : ∃ c : Cap, v = .agg c.cl := by
  obtain ⟨ss, rfl, H1⟩ := H
  obtain ⟨c, ss', rfl, H2⟩ := hasTs_cap (ts := []) H1
  obtain rfl := hasTs_nil H2
  exact ⟨c, by simp⟩
theorem u64_wf {n : Int} (h : (Lit.int .u64 n).wf = true) : u64 n := by
  have e : (decide ((0 : Int) ≤ n) && decide (n ≤ 18446744073709551615)) = true := h
  simp only [Bool.and_eq_true, decide_eq_true_eq] at e
  simp only [u64]; omega

end Go.Proofs.Ythegocjfnjfkdaa

/- HeapSizes, HeapSlots, HeapNested, HeapOnce: for every input the law's Go function answers true, and its arguments read behind the call as before. No conditions. -/
namespace Go.Proofs.Ythegocjfnjfkdaa
open Go.D
set_option linter.all false
set_option maxRecDepth 100000

theorem heapSizes_row : RowOk Try.prog 7 Try.f7 Rows.heapSizesSpec [(true, [.int .i64, .int .i64] ++ (CapT ++ (CapT ++ [.int .i64])))] where
  own := own
  noInit := by kernel_rfl
  isf := Try.func7
  laid := laid
  rowed := rowed
  full := full
  params := by kernel_rfl
  vars := rfl
  ret := ⟨_, rfl, by kernel_rfl⟩
  spec := fun H ds e => by
    match ds, e with
    | [_], _ => rfl
  tys := ⟨20, by kernel_rfl⟩
theorem heapSlots_row : RowOk Try.prog 8 Try.f8 Rows.heapSlotsSpec [(true, CapT)] where
  own := own
  noInit := by kernel_rfl
  isf := Try.func8
  laid := laid
  rowed := rowed
  full := full
  params := by kernel_rfl
  vars := rfl
  ret := ⟨_, rfl, by kernel_rfl⟩
  spec := fun H ds e => by
    match ds, e with
    | [_], _ => rfl
  tys := ⟨20, by kernel_rfl⟩
theorem heapNested_row : RowOk Try.prog 9 Try.f9 Rows.heapNestedSpec [(true, CapT), (true, CapT), (true, CapT)] where
  own := own
  noInit := by kernel_rfl
  isf := Try.func9
  laid := laid
  rowed := rowed
  full := full
  params := by kernel_rfl
  vars := rfl
  ret := ⟨_, rfl, by kernel_rfl⟩
  spec := fun H ds e => by
    match ds, e with
    | [_, _, _], _ => rfl
  tys := ⟨20, by kernel_rfl⟩
theorem heapOnce_row : RowOk Try.prog 10 Try.f10 Rows.heapOnceSpec [(true, CapT), (true, CapT)] where
  own := own
  noInit := by kernel_rfl
  isf := Try.func10
  laid := laid
  rowed := rowed
  full := full
  params := by kernel_rfl
  vars := rfl
  ret := ⟨_, rfl, by kernel_rfl⟩
  spec := fun H ds e => by
    match ds, e with
    | [_, _], _ => rfl
  tys := ⟨20, by kernel_rfl⟩

theorem heapSizes_law : Law (FSpec.of heapSizesG) [(true, [.int .i64, .int .i64] ++ (CapT ++ (CapT ++ [.int .i64])))] := by
  intro h us H hc
  obtain ⟨_, rfl, ss, rfl, H1⟩ := law1 H
  obtain ⟨_, _, rfl, ⟨a, rfl, ha⟩, H2⟩ := hasTs_cons H1
  obtain ⟨_, _, rfl, ⟨b, rfl, hb⟩, H3⟩ := hasTs_cons H2
  obtain ⟨c, _, rfl, H4⟩ := hasTs_cap H3
  obtain ⟨d, _, rfl, H5⟩ := hasTs_cap H4
  obtain ⟨_, _, rfl, ⟨i, rfl, hi⟩, H6⟩ := hasTs_cons H5
  obtain rfl := hasTs_nil H6
  exact rfl
theorem heapSlots_law : Law (FSpec.of heapSlotsG) [(true, CapT)] := by
  intro h us H hc
  obtain ⟨_, rfl, H1⟩ := law1 H
  obtain ⟨c, rfl⟩ := hasV_cap H1
  exact rfl
theorem heapNested_law : Law (FSpec.of heapNestedG) [(true, CapT), (true, CapT), (true, CapT)] := by
  intro h us H hc
  obtain ⟨_, _, _, rfl, H1, H2, H3⟩ := law3 H
  obtain ⟨c, rfl⟩ := hasV_cap H1
  obtain ⟨d, rfl⟩ := hasV_cap H2
  obtain ⟨e, rfl⟩ := hasV_cap H3
  exact rfl
theorem heapOnce_law : Law (FSpec.of heapOnceG) [(true, CapT), (true, CapT)] := by
  intro h us H hc
  obtain ⟨_, _, rfl, H1, H2⟩ := law2 H
  obtain ⟨c, rfl⟩ := hasV_cap H1
  obtain ⟨d, rfl⟩ := hasV_cap H2
  exact rfl

theorem heapSizes_holds : Rows.HeapSizesSaid :=
  OpenClaim.holds_of_wide 7 Try.f7 rfl rfl rfl rfl rfl rfl rfl ⟨rfl, rfl, rfl, rfl, rfl⟩ rfl rfl rfl rfl rfl (by kernel_rfl) Try.func7 (by kernel_rfl)
    (of_decide_eq_true (by kernel_rfl)) (by unfold Func.isWrapper; first | (rw [if_pos (by decide +kernel)]; kernel_rfl) | (rw [if_neg (by decide +kernel)]; exact ⟨rfl, rfl⟩))
    (fun os started H enc _ => heapSizes_row.lifted (C := Try.checked) heapSizes_snd heapSizes_law started (ChangeSpec.witness6 (enc := enc) (C := Try.checked) false ⟨#[], #[.agg #[.int .i64 0, .int .i64 0, .int .i64 0, .int .i64 0, .int .i64 0, .int .i64 0, .int .i64 0, .int .i64 0, .int .i64 0, .int .i64 0, .int .i64 0, .int .i64 0, .int .i64 0, .int .i64 0, .int .i64 0, .int .i64 0, .int .i64 0, .int .i64 0, .int .i64 0, .int .i64 0, .int .i64 0, .int .i64 0, .int .i64 0, .int .i64 0, .int .i64 0]], []⟩ 8 (by kernel_rfl) (by kernel_rfl) (by kernel_rfl) (by kernel_rfl)))
theorem heapSlots_holds : Rows.HeapSlotsSaid :=
  OpenClaim.holds_of_wide 8 Try.f8 rfl rfl rfl rfl rfl rfl rfl ⟨rfl, rfl, rfl, rfl, rfl⟩ rfl rfl rfl rfl rfl (by kernel_rfl) Try.func8 (by kernel_rfl)
    (of_decide_eq_true (by kernel_rfl)) (by unfold Func.isWrapper; first | (rw [if_pos (by decide +kernel)]; kernel_rfl) | (rw [if_neg (by decide +kernel)]; exact ⟨rfl, rfl⟩))
    (fun os started H enc _ => heapSlots_row.lifted (C := Try.checked) heapSlots_snd heapSlots_law started (ChangeSpec.witness6 (enc := enc) (C := Try.checked) false ⟨#[], #[.agg #[.int .i64 0, .int .i64 0, .int .i64 0, .int .i64 0, .int .i64 0, .int .i64 0, .int .i64 0, .int .i64 0, .int .i64 0, .int .i64 0, .int .i64 0]], []⟩ 8 (by kernel_rfl) (by kernel_rfl) (by kernel_rfl) (by kernel_rfl)))
theorem heapNested_holds : Rows.HeapNestedSaid :=
  OpenClaim.holds_of_wide 9 Try.f9 rfl rfl rfl rfl rfl rfl rfl ⟨rfl, rfl, rfl, rfl, rfl⟩ rfl rfl rfl rfl rfl (by kernel_rfl) Try.func9 (by kernel_rfl)
    (of_decide_eq_true (by kernel_rfl)) (by unfold Func.isWrapper; first | (rw [if_pos (by decide +kernel)]; kernel_rfl) | (rw [if_neg (by decide +kernel)]; exact ⟨rfl, rfl⟩))
    (fun os started H enc _ => heapNested_row.lifted (C := Try.checked) heapNested_snd heapNested_law started (ChangeSpec.witness6 (enc := enc) (C := Try.checked) false ⟨#[], #[.agg #[.int .i64 0, .int .i64 0, .int .i64 0, .int .i64 0, .int .i64 0, .int .i64 0, .int .i64 0, .int .i64 0, .int .i64 0, .int .i64 0, .int .i64 0], .agg #[.int .i64 0, .int .i64 0, .int .i64 0, .int .i64 0, .int .i64 0, .int .i64 0, .int .i64 0, .int .i64 0, .int .i64 0, .int .i64 0, .int .i64 0], .agg #[.int .i64 0, .int .i64 0, .int .i64 0, .int .i64 0, .int .i64 0, .int .i64 0, .int .i64 0, .int .i64 0, .int .i64 0, .int .i64 0, .int .i64 0]], []⟩ 8 (by kernel_rfl) (by kernel_rfl) (by kernel_rfl) (by kernel_rfl)))
theorem heapOnce_holds : Rows.HeapOnceSaid :=
  OpenClaim.holds_of_wide 10 Try.f10 rfl rfl rfl rfl rfl rfl rfl ⟨rfl, rfl, rfl, rfl, rfl⟩ rfl rfl rfl rfl rfl (by kernel_rfl) Try.func10 (by kernel_rfl)
    (of_decide_eq_true (by kernel_rfl)) (by unfold Func.isWrapper; first | (rw [if_pos (by decide +kernel)]; kernel_rfl) | (rw [if_neg (by decide +kernel)]; exact ⟨rfl, rfl⟩))
    (fun os started H enc _ => heapOnce_row.lifted (C := Try.checked) heapOnce_snd heapOnce_law started (ChangeSpec.witness6 (enc := enc) (C := Try.checked) false ⟨#[], #[.agg #[.int .i64 0, .int .i64 0, .int .i64 0, .int .i64 0, .int .i64 0, .int .i64 0, .int .i64 0, .int .i64 0, .int .i64 0, .int .i64 0, .int .i64 0], .agg #[.int .i64 0, .int .i64 0, .int .i64 0, .int .i64 0, .int .i64 0, .int .i64 0, .int .i64 0, .int .i64 0, .int .i64 0, .int .i64 0, .int .i64 0]], []⟩ 8 (by kernel_rfl) (by kernel_rfl) (by kernel_rfl) (by kernel_rfl)))
end Go.Proofs.Ythegocjfnjfkdaa

