/- Packages hand and derive, and the document's: slots, caps, what fits, what a copy would be. -/
import Derived.Test.YtpmobbehdpgnbaaGreatZ10
import Derived.Test.YtpmobbehdpgnbaaGreatZ24
import Derived.Test.YtpmobbehdpgnbaaGreatZ25
/- Packages hand and derive, and the document's: slots, caps, what fits, what a copy would be. -/
namespace Go.Proofs.YtpmobbehdpgnbaaGreat
open Go.D
open Nat (reduceAdd reducePow reduceMul reduceSub reduceLeDiff reduceLT reduceEqDiff)
open Int (reduceNeg reduceLE reduceEq reduceNe reduceToNat)
set_option linter.all false
set_option maxRecDepth 100000
set_option maxHeartbeats 4000000

/-! ### Mask -/
def Cap.mask (c : Cap) (r : Int) : Cap := if c.ty = 4 ∨ c.ty = 5 ∨ c.ty = 8 then { c with rights := Go.bits .and .i64 c.rights r } else c
def cmaskG : List V → List Blk → Res
  | [x, .s (.i .i64 r)], h => capF (fun c => .ok (.agg (c.mask r).cl) [] h) [x]
  | _, _ => .bad
theorem cmask_snd : Snd Tryz.prog 123 (FSpec.of cmaskG) := snd_run (noT_snd _) mixed Tryz.func123 dc123 300 fun args h K hc hS => by
  unfold cmaskG at hS
  split at hS
  · rename_i x r
    obtain ⟨c, e, hR⟩ := capF_spec hS
    clear hS
    simp only [List.cons.injEq, and_true] at e
    subst e
    simp only [spec_ok, Cap.mask] at hR
    simp only [Cap.cl]
    by_cases h1 : c.ty = 4
    · have h1' : (c.ty == 4) = true := by simpa using h1
      rw [if_pos (.inl h1)] at hR
      simp only [Cap.cl] at hR
      simp (config := {maxSteps := 9999999}) only [EV0, istep, pickR, bin1R, un1R, eqS, eq1, cmpS, cmp1, isNil, leT, shows, rvC, result, List.set, List.replicate, Option.map, ↓q_cond_t, ↓q_cond_f, reduceCtorEq, reduceAdd, reducePow, Int.reducePow, reduceMul, reduceSub, reduceLeDiff, reduceLT, reduceEqDiff, reduceNeg, Int.reduceLT, reduceLE, reduceEq, reduceNe, Int.reduceAdd, Int.reduceSub, Int.reduceMul, reduceToNat, Int.reduceBEq, Int.reduceBNe, df123, h1', sub, put, fillP, EVt]
      exact hR
    have h1' : (c.ty == 4) = false := by simpa using h1
    by_cases h2 : c.ty = 5
    · have h2' : (c.ty == 5) = true := by simpa using h2
      rw [if_pos (.inr (.inl h2))] at hR
      simp only [Cap.cl] at hR
      simp (config := {maxSteps := 9999999}) only [EV0, istep, pickR, bin1R, un1R, eqS, eq1, cmpS, cmp1, isNil, leT, shows, rvC, result, List.set, List.replicate, Option.map, ↓q_cond_t, ↓q_cond_f, reduceCtorEq, reduceAdd, reducePow, Int.reducePow, reduceMul, reduceSub, reduceLeDiff, reduceLT, reduceEqDiff, reduceNeg, Int.reduceLT, reduceLE, reduceEq, reduceNe, Int.reduceAdd, Int.reduceSub, Int.reduceMul, reduceToNat, Int.reduceBEq, Int.reduceBNe, df123, h1', h2', sub, put, fillP, EVt]
      exact hR
    have h2' : (c.ty == 5) = false := by simpa using h2
    by_cases h3 : c.ty = 8
    · have h3' : (c.ty == 8) = true := by simpa using h3
      rw [if_pos (.inr (.inr h3))] at hR
      simp only [Cap.cl] at hR
      simp (config := {maxSteps := 9999999}) only [EV0, istep, pickR, bin1R, un1R, eqS, eq1, cmpS, cmp1, isNil, leT, shows, rvC, result, List.set, List.replicate, Option.map, ↓q_cond_t, ↓q_cond_f, reduceCtorEq, reduceAdd, reducePow, Int.reducePow, reduceMul, reduceSub, reduceLeDiff, reduceLT, reduceEqDiff, reduceNeg, Int.reduceLT, reduceLE, reduceEq, reduceNe, Int.reduceAdd, Int.reduceSub, Int.reduceMul, reduceToNat, Int.reduceBEq, Int.reduceBNe, df123, h1', h2', h3', sub, put, fillP, EVt]
      exact hR
    have h3' : (c.ty == 8) = false := by simpa using h3
    rw [if_neg (by omega)] at hR
    simp only [Cap.cl] at hR
    simp (config := {maxSteps := 9999999}) only [EV0, istep, pickR, bin1R, un1R, eqS, eq1, cmpS, cmp1, isNil, leT, shows, rvC, result, List.set, List.replicate, Option.map, ↓q_cond_t, ↓q_cond_f, reduceCtorEq, reduceAdd, reducePow, Int.reducePow, reduceMul, reduceSub, reduceLeDiff, reduceLT, reduceEqDiff, reduceNeg, Int.reduceLT, reduceLE, reduceEq, reduceNe, Int.reduceAdd, Int.reduceSub, Int.reduceMul, reduceToNat, Int.reduceBEq, Int.reduceBNe, df123, h1', h2', h3', sub, put, fillP, EVt]
    exact hR
  · exact hS.elim
theorem rcmask_snd : Snd Tryz.prog 31 (FSpec.of cmaskG) := snd_run (noT_snd _) mixed Tryz.func31 dc31 300 fun args h K hc hS => by
  unfold cmaskG at hS
  split at hS
  · rename_i x r
    obtain ⟨c, e, hR⟩ := capF_spec hS
    clear hS
    simp only [List.cons.injEq, and_true] at e
    subst e
    simp only [spec_ok, Cap.mask] at hR
    simp only [Cap.cl]
    by_cases h1 : c.ty = 4
    · have h1' : (c.ty == 4) = true := by simpa using h1
      rw [if_pos (.inl h1)] at hR
      simp only [Cap.cl] at hR
      simp (config := {maxSteps := 9999999}) only [EV0, istep, pickR, bin1R, un1R, eqS, eq1, cmpS, cmp1, isNil, leT, shows, rvC, result, List.set, List.replicate, Option.map, ↓q_cond_t, ↓q_cond_f, reduceCtorEq, reduceAdd, reducePow, Int.reducePow, reduceMul, reduceSub, reduceLeDiff, reduceLT, reduceEqDiff, reduceNeg, Int.reduceLT, reduceLE, reduceEq, reduceNe, Int.reduceAdd, Int.reduceSub, Int.reduceMul, reduceToNat, Int.reduceBEq, Int.reduceBNe, df31, h1', sub, put, fillP, EVt]
      exact hR
    have h1' : (c.ty == 4) = false := by simpa using h1
    by_cases h2 : c.ty = 5
    · have h2' : (c.ty == 5) = true := by simpa using h2
      rw [if_pos (.inr (.inl h2))] at hR
      simp only [Cap.cl] at hR
      simp (config := {maxSteps := 9999999}) only [EV0, istep, pickR, bin1R, un1R, eqS, eq1, cmpS, cmp1, isNil, leT, shows, rvC, result, List.set, List.replicate, Option.map, ↓q_cond_t, ↓q_cond_f, reduceCtorEq, reduceAdd, reducePow, Int.reducePow, reduceMul, reduceSub, reduceLeDiff, reduceLT, reduceEqDiff, reduceNeg, Int.reduceLT, reduceLE, reduceEq, reduceNe, Int.reduceAdd, Int.reduceSub, Int.reduceMul, reduceToNat, Int.reduceBEq, Int.reduceBNe, df31, h1', h2', sub, put, fillP, EVt]
      exact hR
    have h2' : (c.ty == 5) = false := by simpa using h2
    by_cases h3 : c.ty = 8
    · have h3' : (c.ty == 8) = true := by simpa using h3
      rw [if_pos (.inr (.inr h3))] at hR
      simp only [Cap.cl] at hR
      simp (config := {maxSteps := 9999999}) only [EV0, istep, pickR, bin1R, un1R, eqS, eq1, cmpS, cmp1, isNil, leT, shows, rvC, result, List.set, List.replicate, Option.map, ↓q_cond_t, ↓q_cond_f, reduceCtorEq, reduceAdd, reducePow, Int.reducePow, reduceMul, reduceSub, reduceLeDiff, reduceLT, reduceEqDiff, reduceNeg, Int.reduceLT, reduceLE, reduceEq, reduceNe, Int.reduceAdd, Int.reduceSub, Int.reduceMul, reduceToNat, Int.reduceBEq, Int.reduceBNe, df31, h1', h2', h3', sub, put, fillP, EVt]
      exact hR
    have h3' : (c.ty == 8) = false := by simpa using h3
    rw [if_neg (by omega)] at hR
    simp only [Cap.cl] at hR
    simp (config := {maxSteps := 9999999}) only [EV0, istep, pickR, bin1R, un1R, eqS, eq1, cmpS, cmp1, isNil, leT, shows, rvC, result, List.set, List.replicate, Option.map, ↓q_cond_t, ↓q_cond_f, reduceCtorEq, reduceAdd, reducePow, Int.reducePow, reduceMul, reduceSub, reduceLeDiff, reduceLT, reduceEqDiff, reduceNeg, Int.reduceLT, reduceLE, reduceEq, reduceNe, Int.reduceAdd, Int.reduceSub, Int.reduceMul, reduceToNat, Int.reduceBEq, Int.reduceBNe, df31, h1', h2', h3', sub, put, fillP, EVt]
    exact hR
  · exact hS.elim

/-! ### slots, caps -/
def slot9M (b : Nat) (m : M) (st : M → List Blk) : List V → Res
  | [.s (.i .i64 a)] => .ok (.agg (m.gV a).cl) [] (st (m.gX a))
  | _ => .bad
noncomputable def slot9G := memF slot9M
def cap9M (b : Nat) (m : M) (st : M → List Blk) : List V → Res
  | [.s (.i .i64 a)] => .ok (.agg (m.gV a).cap.cl) [] (st (m.gX a))
  | _ => .bad
noncomputable def cap9G := memF cap9M
def M.scX (m : M) (a : Int) (c : Cap) : M := (m.gX a).pX a ⟨c, (m.gV a).prev, (m.gV a).next, (m.gV a).depth⟩
def setCap9M (b : Nat) (m : M) (st : M → List Blk) : List V → Res
  | [.s (.i .i64 a), x] => capF (fun c => .ok (.tup []) [] (st (m.scX a c))) [x]
  | _ => .bad
noncomputable def setCap9G := memF setCap9M
noncomputable def T9a : Tab := addT 19 get2G (addT 98 get2G (addT 80 put2G (addT 81 put2G (noT))))
theorem T9a_snd : T9a.Snd Tryz.prog := addT_snd ok19 get2_snd (addT_snd ok98 rget2_snd (addT_snd ok80 put2_snd (addT_snd ok81 rput2_snd ((noT_snd _)))))
theorem slot9_snd : Snd Tryz.prog 124 (FSpec.of slot9G) := snd_run T9a_snd mixed Tryz.func124 dc124 200 fun args h K hc hS => by
  obtain ⟨a, b, m, rest, rfl, H, hS1⟩ := memF_spec hS
  clear hS
  have hS := hS1
  clear hS1
  unfold slot9M at hS
  split at hS
  · rename_i x
    simp only [spec_ok, Slot.cl] at hS
    simp (config := {maxSteps := 9999999}) only [EV0, istep, pickR, bin1R, un1R, eqS, eq1, cmpS, cmp1, isNil, leT, shows, rvC, result, List.set, List.replicate, Option.map, ↓q_cond_t, ↓q_cond_f, reduceCtorEq, reduceAdd, reducePow, Int.reducePow, reduceMul, reduceSub, reduceLeDiff, reduceLT, reduceEqDiff, reduceNeg, Int.reduceLT, reduceLE, reduceEq, reduceNe, Int.reduceAdd, Int.reduceSub, Int.reduceMul, reduceToNat, Int.reduceBEq, Int.reduceBNe, df124, T9a, get2G, memF_eq H, get2M, Slot.cl, sub, put, fillP, EVt]
    exact hS
  · exact hS.elim
noncomputable def T9b : Tab := addT 124 slot9G (T9a)
theorem T9b_snd : T9b.Snd Tryz.prog := addT_snd ok124 slot9_snd (T9a_snd)
theorem cap9_snd : Snd Tryz.prog 70 (FSpec.of cap9G) := snd_run T9b_snd mixed Tryz.func70 dc70 200 fun args h K hc hS => by
  obtain ⟨a, b, m, rest, rfl, H, hS1⟩ := memF_spec hS
  clear hS
  have hS := hS1
  clear hS1
  unfold cap9M at hS
  split at hS
  · rename_i x
    simp only [spec_ok, Cap.cl] at hS
    simp (config := {maxSteps := 9999999}) only [EV0, istep, pickR, bin1R, un1R, eqS, eq1, cmpS, cmp1, isNil, leT, shows, rvC, result, List.set, List.replicate, Option.map, ↓q_cond_t, ↓q_cond_f, reduceCtorEq, reduceAdd, reducePow, Int.reducePow, reduceMul, reduceSub, reduceLeDiff, reduceLT, reduceEqDiff, reduceNeg, Int.reduceLT, reduceLE, reduceEq, reduceNe, Int.reduceAdd, Int.reduceSub, Int.reduceMul, reduceToNat, Int.reduceBEq, Int.reduceBNe, df70, T9b, T9a, get2G, slot9G, memF_eq H, get2M, slot9M, Slot.cl, sub, put, fillP, EVt]
    exact hS
  · exact hS.elim
theorem rcap9_snd : Snd Tryz.prog 113 (FSpec.of cap9G) := snd_run T9b_snd mixed Tryz.func113 dc113 200 fun args h K hc hS => by
  obtain ⟨a, b, m, rest, rfl, H, hS1⟩ := memF_spec hS
  clear hS
  have hS := hS1
  clear hS1
  unfold cap9M at hS
  split at hS
  · rename_i x
    simp only [spec_ok, Cap.cl] at hS
    simp (config := {maxSteps := 9999999}) only [EV0, istep, pickR, bin1R, un1R, eqS, eq1, cmpS, cmp1, isNil, leT, shows, rvC, result, List.set, List.replicate, Option.map, ↓q_cond_t, ↓q_cond_f, reduceCtorEq, reduceAdd, reducePow, Int.reducePow, reduceMul, reduceSub, reduceLeDiff, reduceLT, reduceEqDiff, reduceNeg, Int.reduceLT, reduceLE, reduceEq, reduceNe, Int.reduceAdd, Int.reduceSub, Int.reduceMul, reduceToNat, Int.reduceBEq, Int.reduceBNe, df113, T9b, T9a, get2G, slot9G, memF_eq H, get2M, slot9M, Slot.cl, sub, put, fillP, EVt]
    exact hS
  · exact hS.elim
theorem setCap9_snd : Snd Tryz.prog 112 (FSpec.of setCap9G) := snd_run T9b_snd mixed Tryz.func112 dc112 200 fun args h K hc hS => by
  obtain ⟨a, b, m, rest, rfl, H, hS1⟩ := memF_spec hS
  clear hS
  have hS := hS1
  clear hS1
  unfold setCap9M at hS
  split at hS
  · rename_i x y
    obtain ⟨c, e, hS2⟩ := capF_spec hS
    simp only [List.cons.injEq, and_true] at e
    subst e
    clear hS
    simp only [spec_ok, M.scX] at hS2
    simp (config := {maxSteps := 9999999}) only [EV0, istep, pickR, bin1R, un1R, eqS, eq1, cmpS, cmp1, isNil, leT, shows, rvC, result, List.set, List.replicate, Option.map, ↓q_cond_t, ↓q_cond_f, reduceCtorEq, reduceAdd, reducePow, Int.reducePow, reduceMul, reduceSub, reduceLeDiff, reduceLT, reduceEqDiff, reduceNeg, Int.reduceLT, reduceLE, reduceEq, reduceNe, Int.reduceAdd, Int.reduceSub, Int.reduceMul, reduceToNat, Int.reduceBEq, Int.reduceBNe, df112, T9b, T9a, get2G, slot9G, put2G, put2M, slotF, slot_eta, cap_eta, memF_eq H, memF_set H, setM_fun H, get2M, slot9M, Slot.cl, Cap.cl, sub, put, fillP, EVt]
    exact hS2
  · exact hS.elim
theorem rsetCap9_snd : Snd Tryz.prog 114 (FSpec.of setCap9G) := snd_run T9b_snd mixed Tryz.func114 dc114 200 fun args h K hc hS => by
  obtain ⟨a, b, m, rest, rfl, H, hS1⟩ := memF_spec hS
  clear hS
  have hS := hS1
  clear hS1
  unfold setCap9M at hS
  split at hS
  · rename_i x y
    obtain ⟨c, e, hS2⟩ := capF_spec hS
    simp only [List.cons.injEq, and_true] at e
    subst e
    clear hS
    simp only [spec_ok, M.scX] at hS2
    simp (config := {maxSteps := 9999999}) only [EV0, istep, pickR, bin1R, un1R, eqS, eq1, cmpS, cmp1, isNil, leT, shows, rvC, result, List.set, List.replicate, Option.map, ↓q_cond_t, ↓q_cond_f, reduceCtorEq, reduceAdd, reducePow, Int.reducePow, reduceMul, reduceSub, reduceLeDiff, reduceLT, reduceEqDiff, reduceNeg, Int.reduceLT, reduceLE, reduceEq, reduceNe, Int.reduceAdd, Int.reduceSub, Int.reduceMul, reduceToNat, Int.reduceBEq, Int.reduceBNe, df114, T9b, T9a, get2G, slot9G, put2G, put2M, slotF, slot_eta, cap_eta, memF_eq H, memF_set H, setM_fun H, get2M, slot9M, Slot.cl, Cap.cl, sub, put, fillP, EVt]
    exact hS2
  · exact hS.elim

/-! ### what fits -/
def fitB (c : Cap) (a : Int) : Bool := if (c.ty == 2) = true then decide (a < c.obj) else if (c.ty == 3) = true then decide (a < c.obj) else if (c.ty == 10) = true then decide (a < c.obj) else true
def fitG : List V → List Blk → Res
  | [x, .s (.i .i64 a)], h => capF (fun c => .ok (.s (.b (fitB c a))) [] h) [x]
  | _, _ => .bad
theorem fit_snd : Snd Tryz.prog 69 (FSpec.of fitG) := snd_run (noT_snd _) mixed Tryz.func69 dc69 200 fun args h K hc hS => by
  unfold fitG at hS
  split at hS
  · rename_i x a
    obtain ⟨c, e, hS2⟩ := capF_spec hS
    simp only [List.cons.injEq, and_true] at e
    subst e
    clear hS
    simp only [spec_ok, fitB] at hS2
    cases h1 : c.ty == 2
    all_goals cases h2 : c.ty == 3
    all_goals cases h3 : c.ty == 10
    all_goals simp only [h1, h2, h3, Bool.false_eq_true, if_true, if_false] at hS2
    all_goals (simp (config := {maxSteps := 9999999}) only [EV0, istep, pickR, bin1R, un1R, eqS, eq1, cmpS, cmp1, isNil, leT, shows, rvC, result, List.set, List.replicate, Option.map, ↓q_cond_t, ↓q_cond_f, reduceCtorEq, reduceAdd, reducePow, Int.reducePow, reduceMul, reduceSub, reduceLeDiff, reduceLT, reduceEqDiff, reduceNeg, Int.reduceLT, reduceLE, reduceEq, reduceNe, Int.reduceAdd, Int.reduceSub, Int.reduceMul, reduceToNat, Int.reduceBEq, Int.reduceBNe, df69, Cap.cl, h1, h2, h3, sub, put, fillP, EVt])
    all_goals exact hS2
  · exact hS.elim
theorem rfit_snd : Snd Tryz.prog 116 (FSpec.of fitG) := snd_run (noT_snd _) mixed Tryz.func116 dc116 200 fun args h K hc hS => by
  unfold fitG at hS
  split at hS
  · rename_i x a
    obtain ⟨c, e, hS2⟩ := capF_spec hS
    simp only [List.cons.injEq, and_true] at e
    subst e
    clear hS
    simp only [spec_ok, fitB] at hS2
    cases h1 : c.ty == 2
    all_goals cases h2 : c.ty == 3
    all_goals cases h3 : c.ty == 10
    all_goals simp only [h1, h2, h3, Bool.false_eq_true, if_true, if_false] at hS2
    all_goals (simp (config := {maxSteps := 9999999}) only [EV0, istep, pickR, bin1R, un1R, eqS, eq1, cmpS, cmp1, isNil, leT, shows, rvC, result, List.set, List.replicate, Option.map, ↓q_cond_t, ↓q_cond_f, reduceCtorEq, reduceAdd, reducePow, Int.reducePow, reduceMul, reduceSub, reduceLeDiff, reduceLT, reduceEqDiff, reduceNeg, Int.reduceLT, reduceLE, reduceEq, reduceNe, Int.reduceAdd, Int.reduceSub, Int.reduceMul, reduceToNat, Int.reduceBEq, Int.reduceBNe, df116, Cap.cl, h1, h2, h3, sub, put, fillP, EVt])
    all_goals exact hS2
  · exact hS.elim

/-! ### a cap as a copy would have it -/
def derE (c : Cap) : Int := if (c.ty == 0) = true then 121 else if (c.ty == 1 || (c.ty == 6 || (c.ty == 7 || (c.ty == 9 || (c.ty == 10 || (c.ty == 11 || c.ty == 13)))))) = true then 122 else 0
def derC (c : Cap) : Cap := if derE c = 0 then (if (c.ty == 8) = true then ⟨c.ty, c.obj, c.bits, c.mark, c.guard, c.gbits, c.badge, c.rights, 0, 0, c.line⟩ else c) else capZ
def derG : List V → List Blk → Res
  | [x], h => capF (fun c => .ok (.tup [.agg (derC c).cl, .s (.i .i64 (derE c))]) [] h) [x]
  | _, _ => .bad
theorem der_snd : Snd Tryz.prog 122 (FSpec.of derG) := snd_run (noT_snd _) mixed Tryz.func122 dc122 300 fun args h K hc hS => by
  unfold derG at hS
  split at hS
  · rename_i x
    obtain ⟨c, e, hS2⟩ := capF_spec hS
    simp only [List.cons.injEq, and_true] at e
    subst e
    clear hS
    simp only [spec_ok, derC, derE] at hS2
    cases h0 : c.ty == 0
    all_goals cases h1 : c.ty == 1
    all_goals cases h6 : c.ty == 6
    all_goals cases h7 : c.ty == 7
    all_goals cases h9 : c.ty == 9
    all_goals cases h10 : c.ty == 10
    all_goals cases h11 : c.ty == 11
    all_goals cases h13 : c.ty == 13
    all_goals cases h8 : c.ty == 8
    all_goals try (exfalso; simp only [beq_iff_eq] at *; omega)
    all_goals simp only [h0, h1, h6, h7, h8, h9, h10, h11, h13, Bool.or_self, Bool.or_true, Bool.true_or, Bool.or_false, Bool.false_or, Bool.false_eq_true, if_true, if_false, reduceEq, capZ, Cap.cl] at hS2
    all_goals (simp (config := {maxSteps := 9999999}) only [EV0, istep, pickR, bin1R, un1R, eqS, eq1, cmpS, cmp1, isNil, leT, shows, rvC, result, List.set, List.replicate, Option.map, ↓q_cond_t, ↓q_cond_f, reduceCtorEq, reduceAdd, reducePow, Int.reducePow, reduceMul, reduceSub, reduceLeDiff, reduceLT, reduceEqDiff, reduceNeg, Int.reduceLT, reduceLE, reduceEq, reduceNe, Int.reduceAdd, Int.reduceSub, Int.reduceMul, reduceToNat, Int.reduceBEq, Int.reduceBNe, df122, Cap.cl, h0, h1, h6, h7, h8, h9, h10, h11, h13, sub, put, fillP, EVt])
    all_goals exact hS2
  · exact hS.elim
end Go.Proofs.YtpmobbehdpgnbaaGreat

