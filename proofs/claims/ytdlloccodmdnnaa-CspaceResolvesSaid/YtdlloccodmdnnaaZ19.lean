/- Package slots: which slots may be, where. -/
import Derived.Test.YtdlloccodmdnnaaZ10
import Derived.Test.YtdlloccodmdnnaaZ16
import Derived.Test.YtdlloccodmdnnaaZ18
/- Package slots: which slots may be, where. -/
namespace Go.Proofs.Ytdlloccodmdnnaa
open Go.D
set_option linter.all false
set_option maxRecDepth 100000
set_option maxHeartbeats 4000000

structure Slot where
  cap : Cap
  prev : Int
  next : Int
  depth : Int
def Slot.cl (s : Slot) : List S := [.i .i64 s.cap.ty, .i .i64 s.cap.obj, .i .i64 s.cap.bits, .i .i64 s.cap.mark, .i .i64 s.cap.guard, .i .i64 s.cap.gbits, .i .i64 s.cap.badge, .i .i64 s.cap.rights, .i .i64 s.cap.asid, .i .i64 s.cap.vaddr, .i .i64 s.cap.line,
  .i .i64 s.prev, .i .i64 s.next, .i .i64 s.depth]
def slotZ : Slot := ⟨capZ, 0, 0, 0⟩
def slotF (f : Slot → Res) : List V → Res
  | [.agg [.i .i64 a, .i .i64 b, .i .i64 c, .i .i64 d, .i .i64 e, .i .i64 g, .i .i64 i, .i .i64 j, .i .i64 k, .i .i64 l, .i .i64 m, .i .i64 p, .i .i64 n, .i .i64 q]] => f ⟨⟨a, b, c, d, e, g, i, j, k, l, m⟩, p, n, q⟩
  | _ => .bad
theorem slotF_spec {f : Slot → Res} {args : List V} {K : V → List Blk → Prop} (h : (slotF f args).spec K) : ∃ s : Slot, args = [.agg s.cl] ∧ (f s).spec K := by
  unfold slotF at h
  split at h
  · exact ⟨_, rfl, h⟩
  · exact h.elim
theorem slot_eta (s : Slot) : (⟨⟨s.cap.ty, s.cap.obj, s.cap.bits, s.cap.mark, s.cap.guard, s.cap.gbits, s.cap.badge, s.cap.rights, s.cap.asid, s.cap.vaddr, s.cap.line⟩, s.prev, s.next, s.depth⟩ : Slot) = s := rfl

def linkB (n : Int) : Bool := decide (0 ≤ n) && (decide (n < 65536) && n.tmod 4 == 0)
def linkG : List V → List Blk → Res
  | [.s (.i .i64 n)], h => .ok (.s (.b (linkB n))) [] h
  | _, _ => .bad
theorem link_snd : Snd Try.prog 120 (FSpec.of linkG) := snd_run (noT_snd _) mixed Try.func120 dc120 100 fun args h K hc hS => by
  unfold linkG at hS
  split at hS
  · simp only [spec_ok, linkB] at hS
    simp (config := { maxSteps := 10000000 }) only [run_drx, run_xd, run_xq, run_xg, run_xb, EV1, EV2, EV3, EV4, EV5, EV6, addT, istep, lenR_sl, lenR_ns, lenR_es, pickR, putD, bin1R, un1R, slcR, bnd, capsOf, fillP, S_plain, V_plain, V.cells, S_known, V_known, C.v, blk, setL, setH, eqS, eq1, cmpS, cmp1, isNil, popTo, killT, setT, leT, V.below, C.below, S_below, R.below, V.val, C.val, S_val, R.val, R.takes, vals, shows, List.any_cons, List.any_nil, unnamed, V.kill, V.names, C.names, S_names, R.names, List.set, List.replicate, ↓q_cond_t, ↓q_cond_f, if_true, if_false, reduceCtorEq, rvals, rvC, result, C_known, V.noL, C.noL, S_noL, R.noL, Option.map, true_and, and_true, ge_iff_le, gt_iff_lt, implies_true, q_ite_t, q_ite_f, beq_iff_eq, bne_iff_ne, q_ne, Nat.reduceAdd, Nat.reducePow, Int.reducePow, Nat.reduceMul, Nat.reduceSub, Nat.reduceLeDiff, Nat.reduceLT, Nat.reduceEqDiff, Int.reduceNeg, Int.reduceLT, Int.reduceLE, Int.reduceEq, Int.reduceNe, Int.reduceAdd, Int.reduceSub, Int.reduceMul, Int.reduceToNat, Int.reduceBEq, Int.reduceBNe, df120, Bool.and_assoc]
    exact hS
  · exact hS.elim
theorem link_ref (n : Int) : (decide (0 ≤ n) && (decide (n ≤ 65532) && n.tmod 4 == 0)) = linkB n := by
  unfold linkB
  by_cases h : 0 ≤ n
  · rw [Int.tmod_eq_emod_of_nonneg h, Bool.eq_iff_iff]
    simp only [Bool.and_eq_true, decide_eq_true_eq, beq_iff_eq]
    omega
  · simp [h]
theorem rlink_snd : Snd Try.prog 117 (FSpec.of linkG) := snd_run (noT_snd _) mixed Try.func117 dc117 100 fun args h K hc hS => by
  unfold linkG at hS
  split at hS
  · simp only [spec_ok, ← link_ref] at hS
    simp (config := { maxSteps := 10000000 }) only [run_drx, run_xd, run_xq, run_xg, run_xb, EV1, EV2, EV3, EV4, EV5, EV6, addT, istep, lenR_sl, lenR_ns, lenR_es, pickR, putD, bin1R, un1R, slcR, bnd, capsOf, fillP, S_plain, V_plain, V.cells, S_known, V_known, C.v, blk, setL, setH, eqS, eq1, cmpS, cmp1, isNil, popTo, killT, setT, leT, V.below, C.below, S_below, R.below, V.val, C.val, S_val, R.val, R.takes, vals, shows, List.any_cons, List.any_nil, unnamed, V.kill, V.names, C.names, S_names, R.names, List.set, List.replicate, ↓q_cond_t, ↓q_cond_f, if_true, if_false, reduceCtorEq, rvals, rvC, result, C_known, V.noL, C.noL, S_noL, R.noL, Option.map, true_and, and_true, ge_iff_le, gt_iff_lt, implies_true, q_ite_t, q_ite_f, beq_iff_eq, bne_iff_ne, q_ne, Nat.reduceAdd, Nat.reducePow, Int.reducePow, Nat.reduceMul, Nat.reduceSub, Nat.reduceLeDiff, Nat.reduceLT, Nat.reduceEqDiff, Int.reduceNeg, Int.reduceLT, Int.reduceLE, Int.reduceEq, Int.reduceNe, Int.reduceAdd, Int.reduceSub, Int.reduceMul, Int.reduceToNat, Int.reduceBEq, Int.reduceBNe, df117, Bool.and_assoc]
    exact hS
  · exact hS.elim

/-- Is it the empty slot? -/
def Slot.isZ (s : Slot) : Bool := s.cap.ty == 0 && (s.cap.obj == 0 && (s.cap.bits == 0 && (s.cap.mark == 0 && (s.cap.guard == 0 && (s.cap.gbits == 0 && (s.cap.badge == 0 && (s.cap.rights == 0 && (s.cap.asid == 0 && (s.cap.vaddr == 0 && (s.cap.line == 0 && (s.prev == 0 && (s.next == 0 && s.depth == 0))))))))))))
theorem Slot.isZ_iff {s : Slot} : s.isZ = true ↔ s = slotZ := by
  obtain ⟨⟨t, o, b, d, e, g, i, j, k, l, m⟩, p, n, q⟩ := s
  simp [Slot.isZ, slotZ, capZ, Bool.and_eq_true, and_assoc]
def slotRB (s : Slot) : Bool := !(s.cap.ty == 0 && !s.isZ) && (rightB s.cap && (linkB s.prev && (linkB s.next && (decide (0 ≤ s.depth) && decide (s.depth < 65536)))))
def slotRG (args : List V) (h : List Blk) : Res := slotF (fun s => .ok (.s (.b (slotRB s))) [] h) args
def TSr : Tab := addT 120 linkG (addT 55 rightG (addT 117 linkG (addT 14 rightG noT)))
theorem TSr_snd : TSr.Snd Try.prog := addT_snd ok120 link_snd (addT_snd ok55 right_snd (addT_snd ok117 rlink_snd (addT_snd ok14 rright_snd (noT_snd _))))
theorem slotR_snd : Snd Try.prog 99 (FSpec.of slotRG) := snd_run TSr_snd mixed Try.func99 dc99 200 fun args h K hc hS => by
  obtain ⟨s, rfl, hR⟩ := slotF_spec hS
  clear hS
  simp only [spec_ok] at hR
  obtain ⟨c, p, n, q⟩ := s
  have hR : K (.s (.b (!(c.ty == 0 && !(Slot.mk c p n q).isZ) && (rightB c && (linkB p && (linkB n && (decide (0 ≤ q) && decide (q < 65536)))))))) h := hR
  have ez : (c.ty == 0 && (c.obj == 0 && (c.bits == 0 && (c.mark == 0 && (c.guard == 0 && (c.gbits == 0 && (c.badge == 0 && (c.rights == 0 && (c.asid == 0 && (c.vaddr == 0 && (c.line == 0 && (p == 0 && (n == 0 && q == 0))))))))))))) = (Slot.mk c p n q).isZ := rfl
  simp only [Slot.cl]
  by_cases h0 : c.ty = 0
  · have hne : (c.ty != 0) = false := by simp [h0]
    cases hz : (Slot.mk c p n q).isZ <;> cases hr : rightB c <;> cases hp : linkB p <;> cases hn : linkB n
    all_goals simp only [hz, hr, hp, hn, h0, beq_self_eq_true, Bool.not_true, Bool.not_false, Bool.true_and, Bool.and_true, Bool.false_and, Bool.and_false] at hR
    all_goals by_cases hq : q < 0
    all_goals (try have hq1 : ¬ 0 ≤ q := by omega)
    all_goals (try have hq1 : 0 ≤ q := by omega)
    all_goals by_cases hq2 : 65535 < q
    all_goals try (exfalso; omega)
    all_goals (try have hq3 : ¬ q < 65536 := by omega)
    all_goals (try have hq3 : q < 65536 := by omega)
    all_goals try simp only [hq1, hq3, decide_true, decide_false, Bool.true_and, Bool.and_true, Bool.false_and, Bool.and_false] at hR
    all_goals (simp (config := { maxSteps := 10000000 }) only [run_drx, run_xd, run_xq, run_xg, run_xb, EV1, EV2, EV3, EV4, EV5, EV6, addT, istep, lenR_sl, lenR_ns, lenR_es, pickR, putD, bin1R, un1R, slcR, bnd, capsOf, fillP, S_plain, V_plain, V.cells, S_known, V_known, C.v, blk, setL, setH, eqS, eq1, cmpS, cmp1, isNil, popTo, killT, setT, leT, V.below, C.below, S_below, R.below, V.val, C.val, S_val, R.val, R.takes, vals, shows, List.any_cons, List.any_nil, unnamed, V.kill, V.names, C.names, S_names, R.names, List.set, List.replicate, ↓q_cond_t, ↓q_cond_f, if_true, if_false, reduceCtorEq, rvals, rvC, result, C_known, V.noL, C.noL, S_noL, R.noL, Option.map, true_and, and_true, ge_iff_le, gt_iff_lt, implies_true, q_ite_t, q_ite_f, beq_iff_eq, bne_iff_ne, q_ne, Nat.reduceAdd, Nat.reducePow, Int.reducePow, Nat.reduceMul, Nat.reduceSub, Nat.reduceLeDiff, Nat.reduceLT, Nat.reduceEqDiff, Int.reduceNeg, Int.reduceLT, Int.reduceLE, Int.reduceEq, Int.reduceNe, Int.reduceAdd, Int.reduceSub, Int.reduceMul, Int.reduceToNat, Int.reduceBEq, Int.reduceBNe, df99, TSr, linkG, rightG, capF, cap_eta, ez, hne, hz, hr, hp, hn, hq, hq1, hq2, hq3, put, fillP, sub, List.take_succ_cons, List.take_zero, List.drop_zero])
    all_goals first | exact hR | exact ⟨fun _ => hR, fun _ => hR⟩ | exact ⟨fun _ => hR, fun x => absurd h0 x⟩
  · have h1 : (c.ty == 0) = false := by simpa using h0
    have hne : (c.ty != 0) = true := by simpa using h0
    cases hr : rightB c <;> cases hp : linkB p <;> cases hn : linkB n
    all_goals simp only [hr, hp, hn, h1, Bool.not_true, Bool.not_false, Bool.true_and, Bool.and_true, Bool.false_and, Bool.and_false] at hR
    all_goals by_cases hq : q < 0
    all_goals (try have hq1 : ¬ 0 ≤ q := by omega)
    all_goals (try have hq1 : 0 ≤ q := by omega)
    all_goals by_cases hq2 : 65535 < q
    all_goals try (exfalso; omega)
    all_goals (try have hq3 : ¬ q < 65536 := by omega)
    all_goals (try have hq3 : q < 65536 := by omega)
    all_goals try simp only [hq1, hq3, decide_true, decide_false, Bool.true_and, Bool.and_true, Bool.false_and, Bool.and_false] at hR
    all_goals (simp (config := { maxSteps := 10000000 }) only [run_drx, run_xd, run_xq, run_xg, run_xb, EV1, EV2, EV3, EV4, EV5, EV6, addT, istep, lenR_sl, lenR_ns, lenR_es, pickR, putD, bin1R, un1R, slcR, bnd, capsOf, fillP, S_plain, V_plain, V.cells, S_known, V_known, C.v, blk, setL, setH, eqS, eq1, cmpS, cmp1, isNil, popTo, killT, setT, leT, V.below, C.below, S_below, R.below, V.val, C.val, S_val, R.val, R.takes, vals, shows, List.any_cons, List.any_nil, unnamed, V.kill, V.names, C.names, S_names, R.names, List.set, List.replicate, ↓q_cond_t, ↓q_cond_f, if_true, if_false, reduceCtorEq, rvals, rvC, result, C_known, V.noL, C.noL, S_noL, R.noL, Option.map, true_and, and_true, ge_iff_le, gt_iff_lt, implies_true, q_ite_t, q_ite_f, beq_iff_eq, bne_iff_ne, q_ne, Nat.reduceAdd, Nat.reducePow, Int.reducePow, Nat.reduceMul, Nat.reduceSub, Nat.reduceLeDiff, Nat.reduceLT, Nat.reduceEqDiff, Int.reduceNeg, Int.reduceLT, Int.reduceLE, Int.reduceEq, Int.reduceNe, Int.reduceAdd, Int.reduceSub, Int.reduceMul, Int.reduceToNat, Int.reduceBEq, Int.reduceBNe, df99, TSr, linkG, rightG, capF, cap_eta, h0, h1, hne, hr, hp, hn, hq, hq1, hq2, hq3, put, fillP, sub, List.take_succ_cons, List.take_zero, List.drop_zero])
    all_goals exact hR
theorem rslotR_snd : Snd Try.prog 89 (FSpec.of slotRG) := snd_run TSr_snd mixed Try.func89 dc89 200 fun args h K hc hS => by
  obtain ⟨s, rfl, hR⟩ := slotF_spec hS
  clear hS
  simp only [spec_ok] at hR
  obtain ⟨c, p, n, q⟩ := s
  have hR : K (.s (.b (!(c.ty == 0 && !(Slot.mk c p n q).isZ) && (rightB c && (linkB p && (linkB n && (decide (0 ≤ q) && decide (q < 65536)))))))) h := hR
  have ez : (c.ty == 0 && (c.obj == 0 && (c.bits == 0 && (c.mark == 0 && (c.guard == 0 && (c.gbits == 0 && (c.badge == 0 && (c.rights == 0 && (c.asid == 0 && (c.vaddr == 0 && (c.line == 0 && (p == 0 && (n == 0 && q == 0))))))))))))) = (Slot.mk c p n q).isZ := rfl
  simp only [Slot.cl]
  by_cases h0 : c.ty = 0
  · have hne : (c.ty != 0) = false := by simp [h0]
    cases hz : (Slot.mk c p n q).isZ <;> cases hr : rightB c <;> cases hp : linkB p <;> cases hn : linkB n
    all_goals simp only [hz, hr, hp, hn, h0, beq_self_eq_true, Bool.not_true, Bool.not_false, Bool.true_and, Bool.and_true, Bool.false_and, Bool.and_false] at hR
    all_goals by_cases hq : q < 0
    all_goals (try have hq1 : ¬ 0 ≤ q := by omega)
    all_goals (try have hq1 : 0 ≤ q := by omega)
    all_goals by_cases hq2 : 65535 < q
    all_goals try (exfalso; omega)
    all_goals (try have hq3 : ¬ q < 65536 := by omega)
    all_goals (try have hq3 : q < 65536 := by omega)
    all_goals try simp only [hq1, hq3, decide_true, decide_false, Bool.true_and, Bool.and_true, Bool.false_and, Bool.and_false] at hR
    all_goals (simp (config := { maxSteps := 10000000 }) only [run_drx, run_xd, run_xq, run_xg, run_xb, EV1, EV2, EV3, EV4, EV5, EV6, addT, istep, lenR_sl, lenR_ns, lenR_es, pickR, putD, bin1R, un1R, slcR, bnd, capsOf, fillP, S_plain, V_plain, V.cells, S_known, V_known, C.v, blk, setL, setH, eqS, eq1, cmpS, cmp1, isNil, popTo, killT, setT, leT, V.below, C.below, S_below, R.below, V.val, C.val, S_val, R.val, R.takes, vals, shows, List.any_cons, List.any_nil, unnamed, V.kill, V.names, C.names, S_names, R.names, List.set, List.replicate, ↓q_cond_t, ↓q_cond_f, if_true, if_false, reduceCtorEq, rvals, rvC, result, C_known, V.noL, C.noL, S_noL, R.noL, Option.map, true_and, and_true, ge_iff_le, gt_iff_lt, implies_true, q_ite_t, q_ite_f, beq_iff_eq, bne_iff_ne, q_ne, Nat.reduceAdd, Nat.reducePow, Int.reducePow, Nat.reduceMul, Nat.reduceSub, Nat.reduceLeDiff, Nat.reduceLT, Nat.reduceEqDiff, Int.reduceNeg, Int.reduceLT, Int.reduceLE, Int.reduceEq, Int.reduceNe, Int.reduceAdd, Int.reduceSub, Int.reduceMul, Int.reduceToNat, Int.reduceBEq, Int.reduceBNe, df89, TSr, linkG, rightG, capF, cap_eta, ez, hne, hz, hr, hp, hn, hq, hq1, hq2, hq3, put, fillP, sub, List.take_succ_cons, List.take_zero, List.drop_zero])
    all_goals first | exact hR | exact ⟨fun _ => hR, fun _ => hR⟩ | exact ⟨fun _ => hR, fun x => absurd h0 x⟩
  · have h1 : (c.ty == 0) = false := by simpa using h0
    have hne : (c.ty != 0) = true := by simpa using h0
    cases hr : rightB c <;> cases hp : linkB p <;> cases hn : linkB n
    all_goals simp only [hr, hp, hn, h1, Bool.not_true, Bool.not_false, Bool.true_and, Bool.and_true, Bool.false_and, Bool.and_false] at hR
    all_goals by_cases hq : q < 0
    all_goals (try have hq1 : ¬ 0 ≤ q := by omega)
    all_goals (try have hq1 : 0 ≤ q := by omega)
    all_goals by_cases hq2 : 65535 < q
    all_goals try (exfalso; omega)
    all_goals (try have hq3 : ¬ q < 65536 := by omega)
    all_goals (try have hq3 : q < 65536 := by omega)
    all_goals try simp only [hq1, hq3, decide_true, decide_false, Bool.true_and, Bool.and_true, Bool.false_and, Bool.and_false] at hR
    all_goals (simp (config := { maxSteps := 10000000 }) only [run_drx, run_xd, run_xq, run_xg, run_xb, EV1, EV2, EV3, EV4, EV5, EV6, addT, istep, lenR_sl, lenR_ns, lenR_es, pickR, putD, bin1R, un1R, slcR, bnd, capsOf, fillP, S_plain, V_plain, V.cells, S_known, V_known, C.v, blk, setL, setH, eqS, eq1, cmpS, cmp1, isNil, popTo, killT, setT, leT, V.below, C.below, S_below, R.below, V.val, C.val, S_val, R.val, R.takes, vals, shows, List.any_cons, List.any_nil, unnamed, V.kill, V.names, C.names, S_names, R.names, List.set, List.replicate, ↓q_cond_t, ↓q_cond_f, if_true, if_false, reduceCtorEq, rvals, rvC, result, C_known, V.noL, C.noL, S_noL, R.noL, Option.map, true_and, and_true, ge_iff_le, gt_iff_lt, implies_true, q_ite_t, q_ite_f, beq_iff_eq, bne_iff_ne, q_ne, Nat.reduceAdd, Nat.reducePow, Int.reducePow, Nat.reduceMul, Nat.reduceSub, Nat.reduceLeDiff, Nat.reduceLT, Nat.reduceEqDiff, Int.reduceNeg, Int.reduceLT, Int.reduceLE, Int.reduceEq, Int.reduceNe, Int.reduceAdd, Int.reduceSub, Int.reduceMul, Int.reduceToNat, Int.reduceBEq, Int.reduceBNe, df89, TSr, linkG, rightG, capF, cap_eta, h0, h1, hne, hr, hp, hn, hq, hq1, hq2, hq3, put, fillP, sub, List.take_succ_cons, List.take_zero, List.drop_zero])
    all_goals exact hR

/-- Is there a slot? -/
def thereB (m : M) (a : Int) : Bool := decide (4 ≤ a) && (a.tmod 4 == 0 && decide (a ≤ m.w.length - 4))
def sthereM (b : Nat) (m : M) (st : M → List Blk) : List V → Res
  | [.s (.i .i64 a)] => .ok (.s (.b (thereB m a))) [] (st m)
  | _ => .bad
noncomputable def sthereG := memF sthereM
noncomputable def TMw2 : Tab := addT 111 wordsG (addT 110 thereG noT)
theorem TMw2_snd : TMw2.Snd Try.prog := addT_snd ok111 mwords_snd (addT_snd ok110 rthere_snd (noT_snd _))
theorem sthere_snd : Snd Try.prog 96 (FSpec.of sthereG) := snd_run TMw2_snd mixed Try.func96 dc96 100 fun args h K hc hS => by
  obtain ⟨a, b, m, rest, rfl, H, hS1⟩ := memF_spec hS
  clear hS
  have hS := hS1
  clear hS1
  unfold sthereM at hS
  split at hS
  · rename_i x
    simp only [spec_ok, setM_self H, thereB] at hS
    have hl := m.l
    have w1 : IntKind.i64.wrap ((m.w.length : Int) - 4) = m.w.length - 4 := wrap64 (by omega) (by omega)
    by_cases c1 : 4 ≤ x
    · by_cases c2 : x.tmod 4 = 0
      · simp only [c1, c2, decide_true, Bool.true_and, beq_self_eq_true] at hS
        simp (config := { maxSteps := 10000000 }) only [run_drx, run_xd, run_xq, run_xg, run_xb, EV1, EV2, EV3, EV4, EV5, EV6, addT, istep, lenR_sl, lenR_ns, lenR_es, pickR, putD, bin1R, un1R, slcR, bnd, capsOf, fillP, S_plain, V_plain, V.cells, S_known, V_known, C.v, blk, setL, setH, eqS, eq1, cmpS, cmp1, isNil, popTo, killT, setT, leT, V.below, C.below, S_below, R.below, V.val, C.val, S_val, R.val, R.takes, vals, shows, List.any_cons, List.any_nil, unnamed, V.kill, V.names, C.names, S_names, R.names, List.set, List.replicate, ↓q_cond_t, ↓q_cond_f, if_true, if_false, reduceCtorEq, rvals, rvC, result, C_known, V.noL, C.noL, S_noL, R.noL, Option.map, true_and, and_true, ge_iff_le, gt_iff_lt, implies_true, q_ite_t, q_ite_f, beq_iff_eq, bne_iff_ne, q_ne, Nat.reduceAdd, Nat.reducePow, Int.reducePow, Nat.reduceMul, Nat.reduceSub, Nat.reduceLeDiff, Nat.reduceLT, Nat.reduceEqDiff, Int.reduceNeg, Int.reduceLT, Int.reduceLE, Int.reduceEq, Int.reduceNe, Int.reduceAdd, Int.reduceSub, Int.reduceMul, Int.reduceToNat, Int.reduceBEq, Int.reduceBNe, df96, TMw2, wordsG, memF_eq H, wordsM, setM_self H, c1, c2, w1]
        exact hS
      · have c3 : (x.tmod 4 == 0) = false := by simpa using c2
        simp only [c1, c3, decide_true, Bool.true_and, Bool.false_and] at hS
        simp (config := { maxSteps := 10000000 }) only [run_drx, run_xd, run_xq, run_xg, run_xb, EV1, EV2, EV3, EV4, EV5, EV6, addT, istep, lenR_sl, lenR_ns, lenR_es, pickR, putD, bin1R, un1R, slcR, bnd, capsOf, fillP, S_plain, V_plain, V.cells, S_known, V_known, C.v, blk, setL, setH, eqS, eq1, cmpS, cmp1, isNil, popTo, killT, setT, leT, V.below, C.below, S_below, R.below, V.val, C.val, S_val, R.val, R.takes, vals, shows, List.any_cons, List.any_nil, unnamed, V.kill, V.names, C.names, S_names, R.names, List.set, List.replicate, ↓q_cond_t, ↓q_cond_f, if_true, if_false, reduceCtorEq, rvals, rvC, result, C_known, V.noL, C.noL, S_noL, R.noL, Option.map, true_and, and_true, ge_iff_le, gt_iff_lt, implies_true, q_ite_t, q_ite_f, beq_iff_eq, bne_iff_ne, q_ne, Nat.reduceAdd, Nat.reducePow, Int.reducePow, Nat.reduceMul, Nat.reduceSub, Nat.reduceLeDiff, Nat.reduceLT, Nat.reduceEqDiff, Int.reduceNeg, Int.reduceLT, Int.reduceLE, Int.reduceEq, Int.reduceNe, Int.reduceAdd, Int.reduceSub, Int.reduceMul, Int.reduceToNat, Int.reduceBEq, Int.reduceBNe, df96, TMw2, wordsG, memF_eq H, wordsM, setM_self H, c1, c2, c3, w1]
        exact hS
    · simp only [c1, decide_false, Bool.false_and] at hS
      simp (config := { maxSteps := 10000000 }) only [run_drx, run_xd, run_xq, run_xg, run_xb, EV1, EV2, EV3, EV4, EV5, EV6, addT, istep, lenR_sl, lenR_ns, lenR_es, pickR, putD, bin1R, un1R, slcR, bnd, capsOf, fillP, S_plain, V_plain, V.cells, S_known, V_known, C.v, blk, setL, setH, eqS, eq1, cmpS, cmp1, isNil, popTo, killT, setT, leT, V.below, C.below, S_below, R.below, V.val, C.val, S_val, R.val, R.takes, vals, shows, List.any_cons, List.any_nil, unnamed, V.kill, V.names, C.names, S_names, R.names, List.set, List.replicate, ↓q_cond_t, ↓q_cond_f, if_true, if_false, reduceCtorEq, rvals, rvC, result, C_known, V.noL, C.noL, S_noL, R.noL, Option.map, true_and, and_true, ge_iff_le, gt_iff_lt, implies_true, q_ite_t, q_ite_f, beq_iff_eq, bne_iff_ne, q_ne, Nat.reduceAdd, Nat.reducePow, Int.reducePow, Nat.reduceMul, Nat.reduceSub, Nat.reduceLeDiff, Nat.reduceLT, Nat.reduceEqDiff, Int.reduceNeg, Int.reduceLT, Int.reduceLE, Int.reduceEq, Int.reduceNe, Int.reduceAdd, Int.reduceSub, Int.reduceMul, Int.reduceToNat, Int.reduceBEq, Int.reduceBNe, df96, TMw2, wordsG, memF_eq H, wordsM, setM_self H, c1]
      exact hS
  · exact hS.elim
theorem there_has (m : M) (a : Int) : (m.has a 4 && (decide (4 ≤ a) && a.tmod 4 == 0)) = thereB m a := by
  have hl := m.l
  rw [Bool.eq_iff_iff]
  simp only [M.has, thereB, Bool.and_eq_true, decide_eq_true_eq, beq_iff_eq]
  omega
theorem rat_snd : Snd Try.prog 88 (FSpec.of sthereG) := snd_run TMw2_snd mixed Try.func88 dc88 100 fun args h K hc hS => by
  obtain ⟨a, b, m, rest, rfl, H, hS1⟩ := memF_spec hS
  clear hS
  have hS := hS1
  clear hS1
  unfold sthereM at hS
  split at hS
  · rename_i x
    simp only [spec_ok, setM_self H, ← there_has] at hS
    cases hh : m.has x 4
    · simp only [hh, Bool.false_and] at hS
      simp (config := { maxSteps := 10000000 }) only [run_drx, run_xd, run_xq, run_xg, run_xb, EV1, EV2, EV3, EV4, EV5, EV6, addT, istep, lenR_sl, lenR_ns, lenR_es, pickR, putD, bin1R, un1R, slcR, bnd, capsOf, fillP, S_plain, V_plain, V.cells, S_known, V_known, C.v, blk, setL, setH, eqS, eq1, cmpS, cmp1, isNil, popTo, killT, setT, leT, V.below, C.below, S_below, R.below, V.val, C.val, S_val, R.val, R.takes, vals, shows, List.any_cons, List.any_nil, unnamed, V.kill, V.names, C.names, S_names, R.names, List.set, List.replicate, ↓q_cond_t, ↓q_cond_f, if_true, if_false, reduceCtorEq, rvals, rvC, result, C_known, V.noL, C.noL, S_noL, R.noL, Option.map, true_and, and_true, ge_iff_le, gt_iff_lt, implies_true, q_ite_t, q_ite_f, beq_iff_eq, bne_iff_ne, q_ne, Nat.reduceAdd, Nat.reducePow, Int.reducePow, Nat.reduceMul, Nat.reduceSub, Nat.reduceLeDiff, Nat.reduceLT, Nat.reduceEqDiff, Int.reduceNeg, Int.reduceLT, Int.reduceLE, Int.reduceEq, Int.reduceNe, Int.reduceAdd, Int.reduceSub, Int.reduceMul, Int.reduceToNat, Int.reduceBEq, Int.reduceBNe, df88, TMw2, thereG, memF_eq H, thereM, setM_self H, hh]
      exact hS
    · simp only [hh, Bool.true_and] at hS
      simp (config := { maxSteps := 10000000 }) only [run_drx, run_xd, run_xq, run_xg, run_xb, EV1, EV2, EV3, EV4, EV5, EV6, addT, istep, lenR_sl, lenR_ns, lenR_es, pickR, putD, bin1R, un1R, slcR, bnd, capsOf, fillP, S_plain, V_plain, V.cells, S_known, V_known, C.v, blk, setL, setH, eqS, eq1, cmpS, cmp1, isNil, popTo, killT, setT, leT, V.below, C.below, S_below, R.below, V.val, C.val, S_val, R.val, R.takes, vals, shows, List.any_cons, List.any_nil, unnamed, V.kill, V.names, C.names, S_names, R.names, List.set, List.replicate, ↓q_cond_t, ↓q_cond_f, if_true, if_false, reduceCtorEq, rvals, rvC, result, C_known, V.noL, C.noL, S_noL, R.noL, Option.map, true_and, and_true, ge_iff_le, gt_iff_lt, implies_true, q_ite_t, q_ite_f, beq_iff_eq, bne_iff_ne, q_ne, Nat.reduceAdd, Nat.reducePow, Int.reducePow, Nat.reduceMul, Nat.reduceSub, Nat.reduceLeDiff, Nat.reduceLT, Nat.reduceEqDiff, Int.reduceNeg, Int.reduceLT, Int.reduceLE, Int.reduceEq, Int.reduceNe, Int.reduceAdd, Int.reduceSub, Int.reduceMul, Int.reduceToNat, Int.reduceBEq, Int.reduceBNe, df88, TMw2, thereG, memF_eq H, thereM, setM_self H, hh]
      exact hS
  · exact hS.elim
end Go.Proofs.Ytdlloccodmdnnaa

