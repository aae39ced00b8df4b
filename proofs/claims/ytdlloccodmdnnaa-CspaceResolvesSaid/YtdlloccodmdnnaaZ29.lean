/- Law 10: CspaceLocal: plain facts. -/
import Derived.Test.YtdlloccodmdnnaaZ10
import Derived.Test.YtdlloccodmdnnaaZ28
/- Law 10: the walks of CspaceMasks, CspaceShort, CspaceGuards, CspaceDeeper, CspaceResolves. -/
namespace Go.Proofs.Ytdlloccodmdnnaa
open Go.D
set_option linter.all false
set_option maxRecDepth 100000
set_option maxHeartbeats 8000000

noncomputable def there10G : List V → List Blk → Res
  | [.s s, .s (.i .i64 a)], h => match arrOf Lay.cl h s with
    | some L => .ob (L.length ≤ 9223372036854775807) (.ok (.tup [.agg ((laidW L).getV a).cap.cl, .s (.b ((laidW L).getE a == 0))]) [] h)
    | none => .bad
  | _, _ => .bad
noncomputable def T10b : Tab := addT 15 laidG (addT 58 get2G (noT))
theorem T10b_snd : T10b.Snd Try.prog := addT_snd ok15 laid10_snd (addT_snd ok58 rget2_snd ((noT_snd _)))
theorem there10_snd : Snd Try.prog 17 (FSpec.of there10G) := snd_cut T10b_snd mixed Try.func17 dc17 300 fun args h K hc hS => by
  unfold there10G at hS
  split at hS
  · split at hS
    · rename_i s a _ L e
      obtain ⟨hl, hS⟩ := hS
      simp only [spec_ok] at hS
      have H1 := arrOf_some e
      have hkn := H1.sl.known
      have hnl := H1.sl.noL
      obtain ⟨r, hr⟩ : ∃ r, laidW L = r := ⟨_, rfl⟩
      rw [hr] at hS
      obtain ⟨v, hv⟩ : ∃ v, r.getV a = v := ⟨_, rfl⟩
      rw [hv] at hS
      simp only [Cap.cl] at hS
      simp (config := { maxSteps := 10000000 }) only [EV1, EV2, EV3, EV4, EV5, EV6, addT, istep, lenR_sl, lenR_ns, lenR_es, pickR, putD, bin1R, un1R, slcR, bnd, capsOf, fillP, S_plain, V_plain, V.cells, S_known, V_known, C.v, blk, setL, setH, eqS, eq1, cmpS, cmp1, isNil, popTo, killT, setT, leT, V.below, C.below, S_below, R.below, V.val, C.val, S_val, R.val, R.takes, vals, shows, List.any_cons, List.any_nil, unnamed, V.kill, V.names, C.names, S_names, R.names, List.set, List.replicate, ↓q_cond_t, ↓q_cond_f, if_true, if_false, reduceCtorEq, rvals, rvC, result, C_known, V.noL, C.noL, S_noL, R.noL, Option.map, true_and, and_true, ge_iff_le, gt_iff_lt, implies_true, q_ite_t, q_ite_f, beq_iff_eq, bne_iff_ne, q_ne, Nat.reduceAdd, Nat.reducePow, Int.reducePow, Nat.reduceMul, Nat.reduceSub, Nat.reduceLeDiff, Nat.reduceLT, Nat.reduceEqDiff, Int.reduceNeg, Int.reduceLT, Int.reduceLE, Int.reduceEq, Int.reduceNe, Int.reduceAdd, Int.reduceSub, Int.reduceMul, Int.reduceToNat, Int.reduceBEq, Int.reduceBNe, df17, T10b, laidG, hkn, hnl, e, hl, hr, memF_0, get2G, get2M, hv, Slot.cl, sub, put, fillP, List.take_succ_cons, List.take_zero, List.drop_zero]
      exact cut_app (Nat.le_refl _) hc rfl hS
    · exact hS.elim
  · exact hS.elim

noncomputable def T10 : Tab := addT 13 awake10G (addT 15 laidG (addT 17 there10G (addT 16 (rslG false) (addT 22 (sltG false) (addT 24 (capOG false) (addT 19 cmaskG (addT 20 cmaskG (addT 21 (rslG true) (addT 23 (sltG true) (addT 25 (capOG true) (addT 18 stepsG (addT 26 dumpG (addT 27 sameWG (addT 14 rightG (noT)))))))))))))))
theorem T10_snd : T10.Snd Try.prog := addT_snd ok13 awake10_snd (addT_snd ok15 laid10_snd (addT_snd ok17 there10_snd (addT_snd ok16 rsl_snd (addT_snd ok22 slt_snd (addT_snd ok24 capO_snd (addT_snd ok19 cmask_snd (addT_snd ok20 rcmask_snd (addT_snd ok21 rrsl_snd (addT_snd ok23 rslt_snd (addT_snd ok25 rcapO_snd (addT_snd ok18 msteps_snd (addT_snd ok26 mdump_snd (addT_snd ok27 sameW_snd (addT_snd ok14 rright_snd ((noT_snd _))))))))))))))))

/-! ### CspaceMasks -/
def masksG : List V → List Blk → Res
  | [x, .s (.i .i64 _), .s (.i .i64 _)], h => capF (fun _ => .ok (.s (.b true)) [] h) [x]
  | _, _ => .bad
theorem masks_snd : Snd Try.prog 7 (FSpec.of masksG) := snd_run T10_snd mixed Try.func7 dc7 400 fun args h K hc hS => by
  unfold masksG at hS
  split at hS
  · rename_i x r q
    obtain ⟨c, e, hR⟩ := capF_spec hS
    clear hS
    simp only [List.cons.injEq, and_true] at e
    subst e
    simp only [spec_ok] at hR
    have e1 := Cap.mask_mask c r q
    have e2 := Cap.mask_less c r
    obtain ⟨d, hd⟩ : ∃ d, c.mask r = d := ⟨_, rfl⟩
    rw [hd] at e1 e2
    obtain ⟨g, hg⟩ : ∃ g, d.mask q = g := ⟨_, rfl⟩
    rw [hg] at e1
    simp only [Cap.cl]
    simp (config := { maxSteps := 10000000 }) only [EV1, EV2, EV3, EV4, EV5, EV6, addT, istep, lenR_sl, lenR_ns, lenR_es, pickR, putD, bin1R, un1R, slcR, bnd, capsOf, fillP, S_plain, V_plain, V.cells, S_known, V_known, C.v, blk, setL, setH, eqS, eq1, cmpS, cmp1, isNil, popTo, killT, setT, leT, V.below, C.below, S_below, R.below, V.val, C.val, S_val, R.val, R.takes, vals, shows, List.any_cons, List.any_nil, unnamed, V.kill, V.names, C.names, S_names, R.names, List.set, List.replicate, ↓q_cond_t, ↓q_cond_f, if_true, if_false, reduceCtorEq, rvals, rvC, result, C_known, V.noL, C.noL, S_noL, R.noL, Option.map, true_and, and_true, ge_iff_le, gt_iff_lt, implies_true, q_ite_t, q_ite_f, beq_iff_eq, bne_iff_ne, q_ne, Nat.reduceAdd, Nat.reducePow, Int.reducePow, Nat.reduceMul, Nat.reduceSub, Nat.reduceLeDiff, Nat.reduceLT, Nat.reduceEqDiff, Int.reduceNeg, Int.reduceLT, Int.reduceLE, Int.reduceEq, Int.reduceNe, Int.reduceAdd, Int.reduceSub, Int.reduceMul, Int.reduceToNat, Int.reduceBEq, Int.reduceBNe, df7, T10, awake10G, cmaskG, capF, cap_eta, hd, hg, ← e1, e2, cap_eqB, Cap.cl, sub, put, fillP, List.take_succ_cons, List.take_zero, List.drop_zero]
    exact hR
  · exact hS.elim

/-! ### CspaceShort -/
def shortS : FSpec := fun args h K => ∃ s L c w d, args = [.s s, .agg (Cap.cl c), .s (.i .u64 w), .s (.i .i64 d)] ∧ IsArr Lay.cl h s L ∧ L.length ≤ 9223372036854775807 ∧ u64 w ∧ ∀ h', K (.s (.b true)) h'
theorem short_snd : Snd Try.prog 6 shortS := (fwp_sound (Tab.snd_Γ T10_snd) mixed Try.func6 dc6).weaken fun args h K hc hS => by
  obtain ⟨s, L, c, w, d, rfl, H1, hl, hu, hK⟩ := hS
  refine fwp_run (Tab.ok_Γ _) 400 ?_
  have hkn := H1.sl.known
  have hnl := H1.sl.noL
  have e := arrOf_eq H1
  obtain ⟨r, hr⟩ : ∃ r, laidW L = r := ⟨_, rfl⟩
  obtain ⟨m, hm⟩ : ∃ m, r.fresh = m := ⟨_, rfl⟩
  obtain ⟨j, hj, hran⟩ := rsl_ran false m c w d
  have hst := hran.steps hj
  obtain ⟨y, hy⟩ : ∃ y, rsl false m c w d = y := ⟨_, rfl⟩
  rw [hy] at hst
  simp only [Cap.cl]
  simp (config := { maxSteps := 10000000 }) only [EV1, EV2, EV3, EV4, EV5, EV6, addT, istep, lenR_sl, lenR_ns, lenR_es, pickR, putD, bin1R, un1R, slcR, bnd, capsOf, fillP, S_plain, V_plain, V.cells, S_known, V_known, C.v, blk, setL, setH, eqS, eq1, cmpS, cmp1, isNil, popTo, killT, setT, leT, V.below, C.below, S_below, R.below, V.val, C.val, S_val, R.val, R.takes, vals, shows, List.any_cons, List.any_nil, unnamed, V.kill, V.names, C.names, S_names, R.names, List.set, List.replicate, ↓q_cond_t, ↓q_cond_f, if_true, if_false, reduceCtorEq, rvals, rvC, result, C_known, V.noL, C.noL, S_noL, R.noL, Option.map, true_and, and_true, ge_iff_le, gt_iff_lt, implies_true, q_ite_t, q_ite_f, beq_iff_eq, bne_iff_ne, q_ne, Nat.reduceAdd, Nat.reducePow, Int.reducePow, Nat.reduceMul, Nat.reduceSub, Nat.reduceLeDiff, Nat.reduceLT, Nat.reduceEqDiff, Int.reduceNeg, Int.reduceLT, Int.reduceLE, Int.reduceEq, Int.reduceNe, Int.reduceAdd, Int.reduceSub, Int.reduceMul, Int.reduceToNat, Int.reduceBEq, Int.reduceBNe, df6, T10, awake10G, laidG, hkn, hnl, e, hl, hr, hm, memF_2, stepsG, stepsM, rslG, rslM, capF, cap_eta, hu, hy, RW.v, hst, sub, put, fillP, List.take_succ_cons, List.take_zero, List.drop_zero]
  exact hK _

/-! ### CspaceGuards -/
def guardsS : FSpec := fun args h K => ∃ s L c w d g, args = [.s s, .agg (Cap.cl c), .s (.i .u64 w), .s (.i .i64 d), .s (.i .i64 g)] ∧ IsArr Lay.cl h s L ∧ L.length ≤ 9223372036854775807 ∧ u64 w ∧ ∀ h', K (.s (.b true)) h'
theorem guards_snd : Snd Try.prog 5 guardsS := (fwp_sound (Tab.snd_Γ T10_snd) mixed Try.func5 dc5).weaken fun args h K hc hS => by
  obtain ⟨s, L, c, w, d, g, rfl, H1, hl, hu, hK⟩ := hS
  refine fwp_run (Tab.ok_Γ _) 400 ?_
  have hkn := H1.sl.known
  have hnl := H1.sl.noL
  have e := arrOf_eq H1
  obtain ⟨r, hr⟩ : ∃ r, laidW L = r := ⟨_, rfl⟩
  obtain ⟨m, hm⟩ : ∃ m, r.fresh = m := ⟨_, rfl⟩
  have hgu := fun (k : M) (h1 : (rsl false m c w d).e = 0) (h2 : 0 ≤ g ∧ g < 2 ^ c.gbits.toNat) (h3 : ¬ g = c.guard) => rsl_guard (k := k) h1 h2 h3
  have hok : (rsl false m c w d).e = 0 → 0 ≤ c.gbits ∧ c.gbits ≤ 31 := fun h0 => by
    by_cases h : c.ty = 2 ∧ rightB c = true
    · exact (right_bounds h.2).gbits
    · rw [rsl_no h] at h0; simp at h0
  obtain ⟨y, hy⟩ : ∃ y, rsl false m c w d = y := ⟨_, rfl⟩
  rw [hy] at hgu hok
  simp only [Cap.cl]
  by_cases c1 : y.e = 0
  case neg =>
    have c1' : (y.e != 0) = true := by simpa using c1
    simp (config := { maxSteps := 10000000 }) only [EV1, EV2, EV3, EV4, EV5, EV6, addT, istep, lenR_sl, lenR_ns, lenR_es, pickR, putD, bin1R, un1R, slcR, bnd, capsOf, fillP, S_plain, V_plain, V.cells, S_known, V_known, C.v, blk, setL, setH, eqS, eq1, cmpS, cmp1, isNil, popTo, killT, setT, leT, V.below, C.below, S_below, R.below, V.val, C.val, S_val, R.val, R.takes, vals, shows, List.any_cons, List.any_nil, unnamed, V.kill, V.names, C.names, S_names, R.names, List.set, List.replicate, ↓q_cond_t, ↓q_cond_f, if_true, if_false, reduceCtorEq, rvals, rvC, result, C_known, V.noL, C.noL, S_noL, R.noL, Option.map, true_and, and_true, ge_iff_le, gt_iff_lt, implies_true, q_ite_t, q_ite_f, beq_iff_eq, bne_iff_ne, q_ne, Nat.reduceAdd, Nat.reducePow, Int.reducePow, Nat.reduceMul, Nat.reduceSub, Nat.reduceLeDiff, Nat.reduceLT, Nat.reduceEqDiff, Int.reduceNeg, Int.reduceLT, Int.reduceLE, Int.reduceEq, Int.reduceNe, Int.reduceAdd, Int.reduceSub, Int.reduceMul, Int.reduceToNat, Int.reduceBEq, Int.reduceBNe, df5, T10, awake10G, laidG, hkn, hnl, e, hl, hr, hm, memF_2, rslG, rslM, capF, cap_eta, hu, hy, RW.v, c1', sub, put, fillP, List.take_succ_cons, List.take_zero, List.drop_zero]
    exact hK _
  have c1' : (y.e != 0) = false := by simpa using c1
  by_cases c2 : g = c.guard
  · have c2' : (g == c.guard) = true := by simpa using c2
    simp (config := { maxSteps := 10000000 }) only [EV1, EV2, EV3, EV4, EV5, EV6, addT, istep, lenR_sl, lenR_ns, lenR_es, pickR, putD, bin1R, un1R, slcR, bnd, capsOf, fillP, S_plain, V_plain, V.cells, S_known, V_known, C.v, blk, setL, setH, eqS, eq1, cmpS, cmp1, isNil, popTo, killT, setT, leT, V.below, C.below, S_below, R.below, V.val, C.val, S_val, R.val, R.takes, vals, shows, List.any_cons, List.any_nil, unnamed, V.kill, V.names, C.names, S_names, R.names, List.set, List.replicate, ↓q_cond_t, ↓q_cond_f, if_true, if_false, reduceCtorEq, rvals, rvC, result, C_known, V.noL, C.noL, S_noL, R.noL, Option.map, true_and, and_true, ge_iff_le, gt_iff_lt, implies_true, q_ite_t, q_ite_f, beq_iff_eq, bne_iff_ne, q_ne, Nat.reduceAdd, Nat.reducePow, Int.reducePow, Nat.reduceMul, Nat.reduceSub, Nat.reduceLeDiff, Nat.reduceLT, Nat.reduceEqDiff, Int.reduceNeg, Int.reduceLT, Int.reduceLE, Int.reduceEq, Int.reduceNe, Int.reduceAdd, Int.reduceSub, Int.reduceMul, Int.reduceToNat, Int.reduceBEq, Int.reduceBNe, df5, T10, awake10G, laidG, hkn, hnl, e, hl, hr, hm, memF_2, rslG, rslM, capF, cap_eta, hu, hy, RW.v, c1', c2', sub, put, fillP, List.take_succ_cons, List.take_zero, List.drop_zero]
    exact hK _
  have c2' : (g == c.guard) = false := by simpa using c2
  by_cases c3 : g < 0
  · simp (config := { maxSteps := 10000000 }) only [EV1, EV2, EV3, EV4, EV5, EV6, addT, istep, lenR_sl, lenR_ns, lenR_es, pickR, putD, bin1R, un1R, slcR, bnd, capsOf, fillP, S_plain, V_plain, V.cells, S_known, V_known, C.v, blk, setL, setH, eqS, eq1, cmpS, cmp1, isNil, popTo, killT, setT, leT, V.below, C.below, S_below, R.below, V.val, C.val, S_val, R.val, R.takes, vals, shows, List.any_cons, List.any_nil, unnamed, V.kill, V.names, C.names, S_names, R.names, List.set, List.replicate, ↓q_cond_t, ↓q_cond_f, if_true, if_false, reduceCtorEq, rvals, rvC, result, C_known, V.noL, C.noL, S_noL, R.noL, Option.map, true_and, and_true, ge_iff_le, gt_iff_lt, implies_true, q_ite_t, q_ite_f, beq_iff_eq, bne_iff_ne, q_ne, Nat.reduceAdd, Nat.reducePow, Int.reducePow, Nat.reduceMul, Nat.reduceSub, Nat.reduceLeDiff, Nat.reduceLT, Nat.reduceEqDiff, Int.reduceNeg, Int.reduceLT, Int.reduceLE, Int.reduceEq, Int.reduceNe, Int.reduceAdd, Int.reduceSub, Int.reduceMul, Int.reduceToNat, Int.reduceBEq, Int.reduceBNe, df5, T10, awake10G, laidG, hkn, hnl, e, hl, hr, hm, memF_2, rslG, rslM, capF, cap_eta, hu, hy, RW.v, c1', c2', c3, sub, put, fillP, List.take_succ_cons, List.take_zero, List.drop_zero]
    exact hK _
  have hb := hok c1
  have key : ∀ k : Fin 32, IntKind.i64.wrap (1 * 2 ^ min k.val IntKind.i64.bits) = 2 ^ k.val := by decide +kernel
  have hw := key ⟨c.gbits.toNat, by omega⟩
  simp only at hw
  have b0 := hb.1
  by_cases c4 : 2 ^ c.gbits.toNat ≤ g
  · simp (config := { maxSteps := 10000000 }) only [EV1, EV2, EV3, EV4, EV5, EV6, addT, istep, lenR_sl, lenR_ns, lenR_es, pickR, putD, bin1R, un1R, slcR, bnd, capsOf, fillP, S_plain, V_plain, V.cells, S_known, V_known, C.v, blk, setL, setH, eqS, eq1, cmpS, cmp1, isNil, popTo, killT, setT, leT, V.below, C.below, S_below, R.below, V.val, C.val, S_val, R.val, R.takes, vals, shows, List.any_cons, List.any_nil, unnamed, V.kill, V.names, C.names, S_names, R.names, List.set, List.replicate, ↓q_cond_t, ↓q_cond_f, if_true, if_false, reduceCtorEq, rvals, rvC, result, C_known, V.noL, C.noL, S_noL, R.noL, Option.map, true_and, and_true, ge_iff_le, gt_iff_lt, implies_true, q_ite_t, q_ite_f, beq_iff_eq, bne_iff_ne, q_ne, Nat.reduceAdd, Nat.reducePow, Int.reducePow, Nat.reduceMul, Nat.reduceSub, Nat.reduceLeDiff, Nat.reduceLT, Nat.reduceEqDiff, Int.reduceNeg, Int.reduceLT, Int.reduceLE, Int.reduceEq, Int.reduceNe, Int.reduceAdd, Int.reduceSub, Int.reduceMul, Int.reduceToNat, Int.reduceBEq, Int.reduceBNe, df5, T10, awake10G, laidG, hkn, hnl, e, hl, hr, hm, memF_2, rslG, rslM, capF, cap_eta, hu, hy, RW.v, c1', c2', c3, b0, hw, c4, sub, put, fillP, List.take_succ_cons, List.take_zero, List.drop_zero]
    exact hK _
  have hfin := fun k => hgu k c1 ⟨by omega, by omega⟩ c2
  simp (config := { maxSteps := 10000000 }) only [EV1, EV2, EV3, EV4, EV5, EV6, addT, istep, lenR_sl, lenR_ns, lenR_es, pickR, putD, bin1R, un1R, slcR, bnd, capsOf, fillP, S_plain, V_plain, V.cells, S_known, V_known, C.v, blk, setL, setH, eqS, eq1, cmpS, cmp1, isNil, popTo, killT, setT, leT, V.below, C.below, S_below, R.below, V.val, C.val, S_val, R.val, R.takes, vals, shows, List.any_cons, List.any_nil, unnamed, V.kill, V.names, C.names, S_names, R.names, List.set, List.replicate, ↓q_cond_t, ↓q_cond_f, if_true, if_false, reduceCtorEq, rvals, rvC, result, C_known, V.noL, C.noL, S_noL, R.noL, Option.map, true_and, and_true, ge_iff_le, gt_iff_lt, implies_true, q_ite_t, q_ite_f, beq_iff_eq, bne_iff_ne, q_ne, Nat.reduceAdd, Nat.reducePow, Int.reducePow, Nat.reduceMul, Nat.reduceSub, Nat.reduceLeDiff, Nat.reduceLT, Nat.reduceEqDiff, Int.reduceNeg, Int.reduceLT, Int.reduceLE, Int.reduceEq, Int.reduceNe, Int.reduceAdd, Int.reduceSub, Int.reduceMul, Int.reduceToNat, Int.reduceBEq, Int.reduceBNe, df5, T10, awake10G, laidG, hkn, hnl, e, hl, hr, hm, memF_2, rslG, rslM, capF, cap_eta, hu, hy, RW.v, c1', c2', c3, b0, hw, c4, hfin, sub, put, fillP, List.take_succ_cons, List.take_zero, List.drop_zero]
  exact hK _
end Go.Proofs.Ytdlloccodmdnnaa

/- Law 10: the walks of CspaceDeeper, CspaceResolves. -/
namespace Go.Proofs.Ytdlloccodmdnnaa
open Go.D
set_option linter.all false
set_option maxRecDepth 100000
set_option maxHeartbeats 8000000

theorem mask_eq' {n : Nat} (hn : n ≤ 32) : IntKind.u64.wrap (IntKind.u64.wrap (1 * 2 ^ min n IntKind.u64.bits) - 1) = ((2 ^ n - 1 : Nat) : Int) := by
  have : ∀ k : Fin 33, IntKind.u64.wrap (IntKind.u64.wrap (1 * 2 ^ min k.val IntKind.u64.bits) - 1) = ((2 ^ k.val - 1 : Nat) : Int) := by decide +kernel
  exact this ⟨n, by omega⟩
theorem more_or {w t r : Nat} (hr : r ≤ 32) : bits .or .u64 (IntKind.u64.wrap ((w : Int) * 2 ^ r)) (((t % 2 ^ r : Nat)) : Int) = ((moreW w t r : Nat) : Int) := by
  have hp : 2 ^ r * 2 ^ (64 - r) = 18446744073709551616 := by rw [← Nat.pow_add, show r + (64 - r) = 64 by omega]
  have h1 : IntKind.u64.wrap ((w : Int) * 2 ^ r) = ((2 ^ r * (w % 2 ^ (64 - r)) : Nat) : Int) := by
    rw [← Nat.mul_mod_mul_left, hp, IntKind.wrap_u64]
    have : (w : Int) * 2 ^ r = ((2 ^ r * w : Nat) : Int) := by simp [Int.mul_comm]
    rw [this]
    omega
  have h2 : 2 ^ r * (w % 2 ^ (64 - r)) < 18446744073709551616 := by
    rw [← hp]
    exact Nat.mul_lt_mul_of_pos_left (Nat.mod_lt _ (Nat.two_pow_pos _)) (Nat.two_pow_pos _)
  have h3 : t % 2 ^ r < 2 ^ r := Nat.mod_lt _ (Nat.two_pow_pos _)
  have h4 : 2 ^ r ≤ 18446744073709551616 := by rw [← hp]; exact Nat.le_mul_of_pos_right _ (Nat.two_pow_pos _)
  rw [h1, bits_or_u64_nat _ _ h2 (by omega), ← Nat.two_pow_add_eq_or_of_lt h3]
  rfl
theorem moreW_u {w t r : Nat} (hr : r ≤ 32) : u64 ((moreW w t r : Nat) : Int) := by
  have hp : 2 ^ r * 2 ^ (64 - r) = 18446744073709551616 := by rw [← Nat.pow_add, show r + (64 - r) = 64 by omega]
  have h2 : w % 2 ^ (64 - r) + 1 ≤ 2 ^ (64 - r) := Nat.mod_lt _ (Nat.two_pow_pos _)
  have h3 : t % 2 ^ r < 2 ^ r := Nat.mod_lt _ (Nat.two_pow_pos _)
  have h5 := Nat.mul_le_mul_left (2 ^ r) h2
  rw [hp, Nat.mul_add, Nat.mul_one] at h5
  refine ⟨by omega, ?_⟩
  have : moreW w t r < 18446744073709551616 := by
    unfold moreW
    omega
  omega
theorem rsl_more {w t r : Nat} {m : M} {c : Cap} {n : Int} (hr0 : 0 < r) (hnr : n + r ≤ 32) (he : (rsl false m c w n).e = 0) :
    ((m.getE (rsl false m c w n).s = 0 ∧ (m.getV (rsl false m c w n).s).cap.ty = 2) → (rsl false m c w n).l = 0) ∧
    ∀ k : M, k.w = m.w → (¬ (m.getE (rsl false m c w n).s = 0 ∧ (m.getV (rsl false m c w n).s).cap.ty = 2) → (rsl false k c (moreW w t r) (n + r)).e = 0 ∧ (rsl false k c (moreW w t r) (n + r)).s = (rsl false m c w n).s ∧ (rsl false k c (moreW w t r) (n + r)).l = (rsl false m c w n).l + r) := by
  by_cases h : c.ty = 2 ∧ rightB c = true
  case neg => rw [rsl_no h] at he; simp at he
  obtain ⟨ht, hr⟩ := h
  by_cases hd : n < 1 ∨ 32 < n
  · rw [rsl_deep ht hr hd] at he; simp at he
  have hk := fun (k : M) (hw : k.w = m.w) => rsl_same (d := false) (d' := false) c (moreW w t r) (n + r) hw
  rw [rsl_way (n := n + r) ht hr (by omega)] at hk
  rw [rsl_way ht hr hd] at he ⊢
  obtain ⟨h1, h2⟩ := way_more (t := t) hr0 false 32 m c n hr ht (by omega) (by omega) hnr he
  refine ⟨h1, fun k hw hx => ?_⟩
  obtain ⟨e1, e2, e3⟩ := hk k hw
  obtain ⟨f1, f2, f3⟩ := h2 hx
  exact ⟨e3.trans f1, e1.trans f2, e2.trans f3⟩
theorem rsl_l {d : Bool} {m : M} {c : Cap} {w n : Int} : 0 ≤ (rsl d m c w n).l ∧ (rsl d m c w n).l ≤ 32 := by
  have main : ∀ (f : Nat) (m : M) (c : Cap) (n : Int), rightB c = true → c.ty = 2 → 0 < n → n ≤ 32 → 0 ≤ (way d w f m c n).l ∧ (way d w f m c n).l ≤ 32 := by
    intro f
    induction f with
    | zero => intro m c n _ _ _ _; exact ⟨Int.le_refl _, (by decide : (0 : Int) ≤ 32)⟩
    | succ f ih =>
      intro m c n hr ht h1 h2
      obtain ⟨b1, b2, hb⟩ := node_facts hr ht
      have hg := hb.gbits
      rw [way]
      split; · exact ⟨Int.le_refl _, (by decide : (0 : Int) ≤ 32)⟩
      split; · exact ⟨Int.le_refl _, (by decide : (0 : Int) ≤ 32)⟩
      split; · exact ⟨Int.le_refl _, (by decide : (0 : Int) ≤ 32)⟩
      split; · exact ⟨Int.le_refl _, (by decide : (0 : Int) ≤ 32)⟩
      split
      · rename_i he
        exact ih _ _ _ (M.getV_right he.1) he.2 (by omega) (by omega)
      · simp only; omega
  unfold rsl
  split; · exact ⟨Int.le_refl _, (by decide : (0 : Int) ≤ 32)⟩
  split; · exact ⟨Int.le_refl _, (by decide : (0 : Int) ≤ 32)⟩
  rename_i h1 h2
  exact main 32 m c n (Classical.byContradiction fun h => h1 (.inr (by simpa using h))) (Classical.byContradiction fun h => h1 (.inl h)) (by omega) (by omega)

/-! ### CspaceDeeper -/
def deeperS : FSpec := fun args h K => ∃ s L c w d r t, args = [.s s, .agg (Cap.cl c), .s (.i .u64 w), .s (.i .i64 d), .s (.i .i64 r), .s (.i .u64 t)] ∧ IsArr Lay.cl h s L ∧ L.length ≤ 9223372036854775807 ∧ u64 w ∧ u64 t ∧ -9223372036854775808 ≤ d ∧ d < 9223372036854775808 ∧ ∀ h', K (.s (.b true)) h'
theorem deeper_snd : Snd Try.prog 4 deeperS := (fwp_sound (Tab.snd_Γ T10_snd) mixed Try.func4 dc4).weaken fun args h K hc hS => by
  obtain ⟨s, L, c, w, d, r, t, rfl, H1, hl, hu, ht, hd1, hd2, hK⟩ := hS
  refine fwp_run (Tab.ok_Γ _) 400 ?_
  have hkn := H1.sl.known
  have hnl := H1.sl.noL
  have e := arrOf_eq H1
  have e' : ∀ X, arrOf Lay.cl (h ++ X) s = some L := fun X => arrOf_eq H1.app
  obtain ⟨rr, hr⟩ : ∃ r, laidW L = r := ⟨_, rfl⟩
  obtain ⟨m, hm⟩ : ∃ m, rr.fresh = m := ⟨_, rfl⟩
  have hmw : m.w = rr.w := by rw [← hm]; rfl
  obtain ⟨w, rfl, hw⟩ := hu.nat
  obtain ⟨t, rfl, htw⟩ := ht.nat
  have hll := rsl_l (d := false) (m := m) (c := c) (w := w) (n := d)
  have hmore := fun (r : Nat) h1 h2 h3 => rsl_more (w := w) (t := t) (r := r) (m := m) (c := c) (n := d) h1 h2 h3
  have hyw := rsl_w false m c w d
  have hd0 : (rsl false m c w d).e = 0 → 1 ≤ d := fun h0 => by
    by_cases h : c.ty = 2 ∧ rightB c = true
    · by_cases hd : d < 1 ∨ 32 < d
      · rw [rsl_deep h.1 h.2 hd] at h0; simp at h0
      · omega
    · rw [rsl_no h] at h0; simp at h0
  obtain ⟨y, hy⟩ : ∃ y, rsl false m c w d = y := ⟨_, rfl⟩
  rw [hy] at hll hmore hyw hd0
  simp only [Cap.cl]
  by_cases c1 : y.e = 0
  case neg =>
    have c1' : (y.e != 0) = true := by simpa using c1
    simp (config := { maxSteps := 10000000 }) only [EV1, EV2, EV3, EV4, EV5, EV6, addT, istep, lenR_sl, lenR_ns, lenR_es, pickR, putD, bin1R, un1R, slcR, bnd, capsOf, fillP, S_plain, V_plain, V.cells, S_known, V_known, C.v, blk, setL, setH, eqS, eq1, cmpS, cmp1, isNil, popTo, killT, setT, leT, V.below, C.below, S_below, R.below, V.val, C.val, S_val, R.val, R.takes, vals, shows, List.any_cons, List.any_nil, unnamed, V.kill, V.names, C.names, S_names, R.names, List.set, List.replicate, ↓q_cond_t, ↓q_cond_f, if_true, if_false, reduceCtorEq, rvals, rvC, result, C_known, V.noL, C.noL, S_noL, R.noL, Option.map, true_and, and_true, ge_iff_le, gt_iff_lt, implies_true, q_ite_t, q_ite_f, beq_iff_eq, bne_iff_ne, q_ne, Nat.reduceAdd, Nat.reducePow, Int.reducePow, Nat.reduceMul, Nat.reduceSub, Nat.reduceLeDiff, Nat.reduceLT, Nat.reduceEqDiff, Int.reduceNeg, Int.reduceLT, Int.reduceLE, Int.reduceEq, Int.reduceNe, Int.reduceAdd, Int.reduceSub, Int.reduceMul, Int.reduceToNat, Int.reduceBEq, Int.reduceBNe, df4, T10, awake10G, laidG, hkn, hnl, e, hl, hr, hm, memF_2, rslG, rslM, capF, cap_eta, hu, hy, RW.v, c1', sub, put, fillP, List.take_succ_cons, List.take_zero, List.drop_zero]
    exact hK _
  have c1' : (y.e != 0) = false := by simpa using c1
  by_cases c2 : r < 1
  · simp (config := { maxSteps := 10000000 }) only [EV1, EV2, EV3, EV4, EV5, EV6, addT, istep, lenR_sl, lenR_ns, lenR_es, pickR, putD, bin1R, un1R, slcR, bnd, capsOf, fillP, S_plain, V_plain, V.cells, S_known, V_known, C.v, blk, setL, setH, eqS, eq1, cmpS, cmp1, isNil, popTo, killT, setT, leT, V.below, C.below, S_below, R.below, V.val, C.val, S_val, R.val, R.takes, vals, shows, List.any_cons, List.any_nil, unnamed, V.kill, V.names, C.names, S_names, R.names, List.set, List.replicate, ↓q_cond_t, ↓q_cond_f, if_true, if_false, reduceCtorEq, rvals, rvC, result, C_known, V.noL, C.noL, S_noL, R.noL, Option.map, true_and, and_true, ge_iff_le, gt_iff_lt, implies_true, q_ite_t, q_ite_f, beq_iff_eq, bne_iff_ne, q_ne, Nat.reduceAdd, Nat.reducePow, Int.reducePow, Nat.reduceMul, Nat.reduceSub, Nat.reduceLeDiff, Nat.reduceLT, Nat.reduceEqDiff, Int.reduceNeg, Int.reduceLT, Int.reduceLE, Int.reduceEq, Int.reduceNe, Int.reduceAdd, Int.reduceSub, Int.reduceMul, Int.reduceToNat, Int.reduceBEq, Int.reduceBNe, df4, T10, awake10G, laidG, hkn, hnl, e, hl, hr, hm, memF_2, rslG, rslM, capF, cap_eta, hu, hy, RW.v, c1', c2, sub, put, fillP, List.take_succ_cons, List.take_zero, List.drop_zero]
    exact hK _
  by_cases c3 : 32 < r
  · simp (config := { maxSteps := 10000000 }) only [EV1, EV2, EV3, EV4, EV5, EV6, addT, istep, lenR_sl, lenR_ns, lenR_es, pickR, putD, bin1R, un1R, slcR, bnd, capsOf, fillP, S_plain, V_plain, V.cells, S_known, V_known, C.v, blk, setL, setH, eqS, eq1, cmpS, cmp1, isNil, popTo, killT, setT, leT, V.below, C.below, S_below, R.below, V.val, C.val, S_val, R.val, R.takes, vals, shows, List.any_cons, List.any_nil, unnamed, V.kill, V.names, C.names, S_names, R.names, List.set, List.replicate, ↓q_cond_t, ↓q_cond_f, if_true, if_false, reduceCtorEq, rvals, rvC, result, C_known, V.noL, C.noL, S_noL, R.noL, Option.map, true_and, and_true, ge_iff_le, gt_iff_lt, implies_true, q_ite_t, q_ite_f, beq_iff_eq, bne_iff_ne, q_ne, Nat.reduceAdd, Nat.reducePow, Int.reducePow, Nat.reduceMul, Nat.reduceSub, Nat.reduceLeDiff, Nat.reduceLT, Nat.reduceEqDiff, Int.reduceNeg, Int.reduceLT, Int.reduceLE, Int.reduceEq, Int.reduceNe, Int.reduceAdd, Int.reduceSub, Int.reduceMul, Int.reduceToNat, Int.reduceBEq, Int.reduceBNe, df4, T10, awake10G, laidG, hkn, hnl, e, hl, hr, hm, memF_2, rslG, rslM, capF, cap_eta, hu, hy, RW.v, c1', c2, c3, sub, put, fillP, List.take_succ_cons, List.take_zero, List.drop_zero]
    exact hK _
  have v1 : IntKind.i64.wrap (32 - r) = 32 - r := wrap64 (by omega) (by omega)
  by_cases c4 : 32 - r < d
  · simp (config := { maxSteps := 10000000 }) only [EV1, EV2, EV3, EV4, EV5, EV6, addT, istep, lenR_sl, lenR_ns, lenR_es, pickR, putD, bin1R, un1R, slcR, bnd, capsOf, fillP, S_plain, V_plain, V.cells, S_known, V_known, C.v, blk, setL, setH, eqS, eq1, cmpS, cmp1, isNil, popTo, killT, setT, leT, V.below, C.below, S_below, R.below, V.val, C.val, S_val, R.val, R.takes, vals, shows, List.any_cons, List.any_nil, unnamed, V.kill, V.names, C.names, S_names, R.names, List.set, List.replicate, ↓q_cond_t, ↓q_cond_f, if_true, if_false, reduceCtorEq, rvals, rvC, result, C_known, V.noL, C.noL, S_noL, R.noL, Option.map, true_and, and_true, ge_iff_le, gt_iff_lt, implies_true, q_ite_t, q_ite_f, beq_iff_eq, bne_iff_ne, q_ne, Nat.reduceAdd, Nat.reducePow, Int.reducePow, Nat.reduceMul, Nat.reduceSub, Nat.reduceLeDiff, Nat.reduceLT, Nat.reduceEqDiff, Int.reduceNeg, Int.reduceLT, Int.reduceLE, Int.reduceEq, Int.reduceNe, Int.reduceAdd, Int.reduceSub, Int.reduceMul, Int.reduceToNat, Int.reduceBEq, Int.reduceBNe, df4, T10, awake10G, laidG, hkn, hnl, e, hl, hr, hm, memF_2, rslG, rslM, capF, cap_eta, hu, hy, RW.v, c1', c2, c3, v1, c4, sub, put, fillP, List.take_succ_cons, List.take_zero, List.drop_zero]
    exact hK _
  obtain ⟨r, rfl⟩ : ∃ a : Nat, r = a := ⟨r.toNat, by omega⟩
  have hd0 := hd0 c1
  have v2 : IntKind.i64.wrap (d + (r : Int)) = d + r := wrap64 (by omega) (by omega)
  have v3 : IntKind.i64.wrap (y.l + (r : Int)) = y.l + r := wrap64 (by omega) (by omega)
  have m1 : min r IntKind.u64.bits = r := by show min r 64 = _; omega
  have b1 : (0 : Int) ≤ (r : Int) := by omega
  have m2 := mask_eq' (n := r) (by omega)
  rw [m1] at m2
  have m3 : bits .and .u64 (t : Int) ((2 ^ r - 1 : Nat) : Int) = ((t % 2 ^ r : Nat) : Int) := by
    rw [u64_and_mask' ht (k := r) (by omega) rfl]; simp
  have m4 := more_or (w := w) (t := t) (r := r) (by omega)
  have m5 := moreW_u (w := w) (t := t) (r := r) (by omega)
  obtain ⟨hm1, hm2⟩ := hmore r (by omega) (by omega) c1
  have hm2 := hm2 y.m hyw
  obtain ⟨z, hz⟩ : ∃ z, rsl false y.m c (moreW w t r) (d + r) = z := ⟨_, rfl⟩
  rw [hz] at hm2
  obtain ⟨v, hv⟩ : ∃ v, m.getV y.s = v := ⟨_, rfl⟩
  obtain ⟨g, hg⟩ : ∃ g, m.getE y.s = g := ⟨_, rfl⟩
  have hv' : rr.getV y.s = v := by rw [← hv]; exact M.getV_w hmw.symm _
  have hg' : rr.getE y.s = g := by rw [← hg]; exact M.getE_w hmw.symm _
  rw [hv, hg] at hm1 hm2
  by_cases c5 : g = 0 ∧ v.cap.ty = 2
  · have c6 : (g == 0) = true := by simpa using c5.1
    have c7 : (v.cap.ty == 2) = true := by simpa using c5.2
    have c8 := hm1 c5
    simp (config := { maxSteps := 10000000 }) only [EV1, EV2, EV3, EV4, EV5, EV6, addT, istep, lenR_sl, lenR_ns, lenR_es, pickR, putD, bin1R, un1R, slcR, bnd, capsOf, fillP, S_plain, V_plain, V.cells, S_known, V_known, C.v, blk, setL, setH, eqS, eq1, cmpS, cmp1, isNil, popTo, killT, setT, leT, V.below, C.below, S_below, R.below, V.val, C.val, S_val, R.val, R.takes, vals, shows, List.any_cons, List.any_nil, unnamed, V.kill, V.names, C.names, S_names, R.names, List.set, List.replicate, ↓q_cond_t, ↓q_cond_f, if_true, if_false, reduceCtorEq, rvals, rvC, result, C_known, V.noL, C.noL, S_noL, R.noL, Option.map, true_and, and_true, ge_iff_le, gt_iff_lt, implies_true, q_ite_t, q_ite_f, beq_iff_eq, bne_iff_ne, q_ne, Nat.reduceAdd, Nat.reducePow, Int.reducePow, Nat.reduceMul, Nat.reduceSub, Nat.reduceLeDiff, Nat.reduceLT, Nat.reduceEqDiff, Int.reduceNeg, Int.reduceLT, Int.reduceLE, Int.reduceEq, Int.reduceNe, Int.reduceAdd, Int.reduceSub, Int.reduceMul, Int.reduceToNat, Int.reduceBEq, Int.reduceBNe, df4, T10, awake10G, laidG, hkn, hnl, e, e', hl, hr, hm, memF_2, rslG, rslM, capF, cap_eta, hu, hy, RW.v, c1', c2, c3, v1, c4, v2, v3, m1, b1, m2, m3, m4, m5, hz, there10G, hv', hg', c6, c7, c8, Cap.cl, sub, put, fillP, List.take_succ_cons, List.take_zero, List.drop_zero]
    exact hK _
  · obtain ⟨k1, k2, k3⟩ := hm2 c5
    by_cases c6 : g = 0
    · have c6' : (g == 0) = true := by simpa using c6
      have c7 : (v.cap.ty == 2) = false := by
        have : ¬ v.cap.ty = 2 := fun h => c5 ⟨c6, h⟩
        simpa using this
      simp (config := { maxSteps := 10000000 }) only [EV1, EV2, EV3, EV4, EV5, EV6, addT, istep, lenR_sl, lenR_ns, lenR_es, pickR, putD, bin1R, un1R, slcR, bnd, capsOf, fillP, S_plain, V_plain, V.cells, S_known, V_known, C.v, blk, setL, setH, eqS, eq1, cmpS, cmp1, isNil, popTo, killT, setT, leT, V.below, C.below, S_below, R.below, V.val, C.val, S_val, R.val, R.takes, vals, shows, List.any_cons, List.any_nil, unnamed, V.kill, V.names, C.names, S_names, R.names, List.set, List.replicate, ↓q_cond_t, ↓q_cond_f, if_true, if_false, reduceCtorEq, rvals, rvC, result, C_known, V.noL, C.noL, S_noL, R.noL, Option.map, true_and, and_true, ge_iff_le, gt_iff_lt, implies_true, q_ite_t, q_ite_f, beq_iff_eq, bne_iff_ne, q_ne, Nat.reduceAdd, Nat.reducePow, Int.reducePow, Nat.reduceMul, Nat.reduceSub, Nat.reduceLeDiff, Nat.reduceLT, Nat.reduceEqDiff, Int.reduceNeg, Int.reduceLT, Int.reduceLE, Int.reduceEq, Int.reduceNe, Int.reduceAdd, Int.reduceSub, Int.reduceMul, Int.reduceToNat, Int.reduceBEq, Int.reduceBNe, df4, T10, awake10G, laidG, hkn, hnl, e, e', hl, hr, hm, memF_2, rslG, rslM, capF, cap_eta, hu, hy, RW.v, c1', c2, c3, v1, c4, v2, v3, m1, b1, m2, m3, m4, m5, hz, there10G, hv', hg', c6', c7, k1, k2, k3, Cap.cl, sub, put, fillP, List.take_succ_cons, List.take_zero, List.drop_zero]
      exact hK _
    · have c6' : (g == 0) = false := by simpa using c6
      simp (config := { maxSteps := 10000000 }) only [EV1, EV2, EV3, EV4, EV5, EV6, addT, istep, lenR_sl, lenR_ns, lenR_es, pickR, putD, bin1R, un1R, slcR, bnd, capsOf, fillP, S_plain, V_plain, V.cells, S_known, V_known, C.v, blk, setL, setH, eqS, eq1, cmpS, cmp1, isNil, popTo, killT, setT, leT, V.below, C.below, S_below, R.below, V.val, C.val, S_val, R.val, R.takes, vals, shows, List.any_cons, List.any_nil, unnamed, V.kill, V.names, C.names, S_names, R.names, List.set, List.replicate, ↓q_cond_t, ↓q_cond_f, if_true, if_false, reduceCtorEq, rvals, rvC, result, C_known, V.noL, C.noL, S_noL, R.noL, Option.map, true_and, and_true, ge_iff_le, gt_iff_lt, implies_true, q_ite_t, q_ite_f, beq_iff_eq, bne_iff_ne, q_ne, Nat.reduceAdd, Nat.reducePow, Int.reducePow, Nat.reduceMul, Nat.reduceSub, Nat.reduceLeDiff, Nat.reduceLT, Nat.reduceEqDiff, Int.reduceNeg, Int.reduceLT, Int.reduceLE, Int.reduceEq, Int.reduceNe, Int.reduceAdd, Int.reduceSub, Int.reduceMul, Int.reduceToNat, Int.reduceBEq, Int.reduceBNe, df4, T10, awake10G, laidG, hkn, hnl, e, e', hl, hr, hm, memF_2, rslG, rslM, capF, cap_eta, hu, hy, RW.v, c1', c2, c3, v1, c4, v2, v3, m1, b1, m2, m3, m4, m5, hz, there10G, hv', hg', c6', k1, k2, k3, Cap.cl, sub, put, fillP, List.take_succ_cons, List.take_zero, List.drop_zero]
      exact hK _

/-! ### CspaceResolves -/
def resolvesS : FSpec := fun args h K => ∃ s L c w d, args = [.s s, .agg (Cap.cl c), .s (.i .u64 w), .s (.i .i64 d)] ∧ IsArr Lay.cl h s L ∧ L.length ≤ 9223372036854775807 ∧ u64 w ∧ ∀ h', K (.s (.b true)) h'
theorem resolves_snd : Snd Try.prog 8 resolvesS := (fwp_sound (Tab.snd_Γ T10_snd) mixed Try.func8 dc8).weaken fun args h K hc hS => by
  obtain ⟨s, L, c, w, d, rfl, H1, hl, hu, hK⟩ := hS
  refine fwp_run (Tab.ok_Γ _) 600 ?_
  have hkn := H1.sl.known
  have hnl := H1.sl.noL
  have e := arrOf_eq H1
  have hlr := laidW_len L
  obtain ⟨r, hr⟩ : ∃ r, laidW L = r := ⟨_, rfl⟩
  obtain ⟨m, hm⟩ : ∃ m, r.fresh = m := ⟨_, rfl⟩
  have hmw : m.w = r.w := by rw [← hm]; rfl
  rw [hr] at hlr
  have w1 := rsl_same (d := false) (d' := true) c w d hmw
  have wa := rsl_w false m c w d
  have wb := rsl_w true r c w d
  obtain ⟨y, hy⟩ : ∃ y, rsl false m c w d = y := ⟨_, rfl⟩
  obtain ⟨x, hx⟩ : ∃ x, rsl true r c w d = x := ⟨_, rfl⟩
  rw [hy, hx] at w1
  rw [hy] at wa
  rw [hx] at wb
  have w2 : y.m.w = x.m.w := by rw [wa, wb, hmw]
  have w3 := RW.slE_same (rsl_same (d := false) (d' := true) c w d w2)
  have wc_ := rsl_w false y.m c w d
  have wd_ := rsl_w true x.m c w d
  obtain ⟨y2, hy2⟩ : ∃ z, rsl false y.m c w d = z := ⟨_, rfl⟩
  obtain ⟨x2, hx2⟩ : ∃ z, rsl true x.m c w d = z := ⟨_, rfl⟩
  rw [hy2, hx2] at w3
  rw [hy2] at wc_
  rw [hx2] at wd_
  have w4 : y2.m.w = x2.m.w := by rw [wc_, wd_, w2]
  have we := rsl_w false y2.m c w 32
  have wf := rsl_w true x2.m c w 32
  have w5 := RW.cap_same (rsl_same (d := false) (d' := true) c w 32 w4) (by rw [we, wf, w4])
  have wg := RW.cap_w (rsl false y2.m c w 32)
  have wh := RW.cap_w (rsl true x2.m c w 32)
  obtain ⟨y3, hy3⟩ : ∃ z, (rsl false y2.m c w 32).cap = z := ⟨_, rfl⟩
  obtain ⟨x3, hx3⟩ : ∃ z, (rsl true x2.m c w 32).cap = z := ⟨_, rfl⟩
  rw [hy3, hx3] at w5
  rw [hy3, we, wc_, wa, hmw] at wg
  rw [hx3, wf, wd_, wb] at wh
  obtain ⟨a1, a2, a3⟩ := w1
  obtain ⟨b1, b2⟩ := w3
  obtain ⟨c1, c2, c3, _⟩ := w5
  have l3 : y3.m.w.length = 4096 := by rw [wg, hlr]
  have l4 : x3.m.w.length = 4096 := by rw [wh, hlr]
  have hq0 : 0 + 4096 = 4096 := rfl
  have hx1 : y3.m.has 0 4096 = true := M.has_of (by omega)
  have hw1 : y3.m.w.take 4096 = x3.m.w := by rw [wg, wh]; exact take_all hlr
  have hb : x3.m.w.length ≤ 8796093022208 := by omega
  simp only [Cap.cl]
  simp (config := { maxSteps := 10000000 }) only [EV1, EV2, EV3, EV4, EV5, EV6, addT, istep, lenR_sl, lenR_ns, lenR_es, pickR, putD, bin1R, un1R, slcR, bnd, capsOf, fillP, S_plain, V_plain, V.cells, S_known, V_known, C.v, blk, setL, setH, eqS, eq1, cmpS, cmp1, isNil, popTo, killT, setT, leT, V.below, C.below, S_below, R.below, V.val, C.val, S_val, R.val, R.takes, vals, shows, List.any_cons, List.any_nil, unnamed, V.kill, V.names, C.names, S_names, R.names, List.set, List.replicate, ↓q_cond_t, ↓q_cond_f, if_true, if_false, reduceCtorEq, rvals, rvC, result, C_known, V.noL, C.noL, S_noL, R.noL, Option.map, true_and, and_true, ge_iff_le, gt_iff_lt, implies_true, q_ite_t, q_ite_f, beq_iff_eq, bne_iff_ne, q_ne, Nat.reduceAdd, Nat.reducePow, Int.reducePow, Nat.reduceMul, Nat.reduceSub, Nat.reduceLeDiff, Nat.reduceLT, Nat.reduceEqDiff, Int.reduceNeg, Int.reduceLT, Int.reduceLE, Int.reduceEq, Int.reduceNe, Int.reduceAdd, Int.reduceSub, Int.reduceMul, Int.reduceToNat, Int.reduceBEq, Int.reduceBNe, df8, T10, awake10G, laidG, hkn, hnl, e, hl, hr, hm, memF_2, memF_0, rslG, rslM, sltG, sltM, capOG, capOM, capF, cap_eta, hu, hy, hx, hy2, hx2, hy3, hx3, RW.v, RC.v, Cap.cl, MB_c, MB_s, dumpG, dumpM, l4, hx1, hw1, sub, put, fillP, List.take_succ_cons, List.take_zero, List.drop_zero]
  intro cp hcp
  simp (config := { maxSteps := 10000000 }) only [EV1, EV2, EV3, EV4, EV5, EV6, addT, istep, lenR_sl, lenR_ns, lenR_es, pickR, putD, bin1R, un1R, slcR, bnd, capsOf, fillP, S_plain, V_plain, V.cells, S_known, V_known, C.v, blk, setL, setH, eqS, eq1, cmpS, cmp1, isNil, popTo, killT, setT, leT, V.below, C.below, S_below, R.below, V.val, C.val, S_val, R.val, R.takes, vals, shows, List.any_cons, List.any_nil, unnamed, V.kill, V.names, C.names, S_names, R.names, List.set, List.replicate, ↓q_cond_t, ↓q_cond_f, if_true, if_false, reduceCtorEq, rvals, rvC, result, C_known, V.noL, C.noL, S_noL, R.noL, Option.map, true_and, and_true, ge_iff_le, gt_iff_lt, implies_true, q_ite_t, q_ite_f, beq_iff_eq, bne_iff_ne, q_ne, Nat.reduceAdd, Nat.reducePow, Int.reducePow, Nat.reduceMul, Nat.reduceSub, Nat.reduceLeDiff, Nat.reduceLT, Nat.reduceEqDiff, Int.reduceNeg, Int.reduceLT, Int.reduceLE, Int.reduceEq, Int.reduceNe, Int.reduceAdd, Int.reduceSub, Int.reduceMul, Int.reduceToNat, Int.reduceBEq, Int.reduceBNe, T10, sameWG, listOf_g, app_getn, app_len, MW, Int.toNat_natCast, lstB_rw, unwc_wc, o_bind, lenIs_t, some_is, hb, l4, a1, a2, a3, b1, b2, c1, c2, c3, cap_eqB, Cap.cl, List.drop_zero, sub, put, fillP, List.take_succ_cons, List.take_zero]
  exact hK _
end Go.Proofs.Ytdlloccodmdnnaa

/- Law 10: CspaceLocal: plain facts. -/
namespace Go.Proofs.Ytdlloccodmdnnaa
open Go.D
set_option linter.all false
set_option maxRecDepth 100000
set_option maxHeartbeats 4000000

theorem M.put_getE_other {m : M} {a b : Int} {t : Slot} (hb : thereB m a = true) (hn : b ≠ a) : (m.putX b t).getE a = m.getE a := by
  unfold M.putX
  split
  · rename_i h
    simp only [Bool.and_eq_true] at h
    obtain ⟨x, y⟩ := M.putS_other h.1 h.2 hb hn
    simp only [M.getE, M.putS_there, x]
  · rfl
theorem M.getV_out {m : M} {a : Int} (h : thereB m a = false) : m.getV a = slotZ ∧ m.getE a = 20 := by
  unfold M.getV M.getE
  rw [h]; exact ⟨rfl, rfl⟩
theorem M.put_other {m : M} {a b : Int} {t : Slot} (hn : b ≠ a) : (m.putX b t).getV a = m.getV a ∧ (m.putX b t).getE a = m.getE a := by
  cases h : thereB m a with
  | true => exact ⟨M.put_get_other h hn, M.put_getE_other h hn⟩
  | false =>
    have h2 : thereB (m.putX b t) a = false := by rw [M.putX_there]; exact h
    rw [(M.getV_out h).1, (M.getV_out h).2, (M.getV_out h2).1, (M.getV_out h2).2]; exact ⟨rfl, rfl⟩
/-- A CNode's end. -/
def Cap.ends (c : Cap) : Int := c.obj + 4 * 2 ^ c.bits.toNat
/-- All CNodes end below. -/
def LowOk (m : M) : Prop := ∀ a, m.getE a = 0 → (m.getV a).cap.ty = 2 → (m.getV a).cap.ends ≤ 2048
def Lay.low (x : Lay) : Prop := rightB x.cap = true ∧ 0 ≤ x.at_ ∧ x.at_ < 2048 ∧ (x.cap.ty = 2 → x.cap.ends ≤ 2048)
theorem LowOk.zero (k : Nat) : LowOk (M.zero k) := fun a he ht => by
  obtain ⟨h1, h2⟩ := M.getE_there he
  have : (M.zero k).getV a = (M.zero k).slotC a := by unfold M.getV; rw [h1, h2]; rfl
  rw [this] at ht
  simp only [M.slotC, M.at_zero] at ht
  exact absurd ht (by decide)
theorem LowOk.put {m : M} (H : LowOk m) {x : Lay} (hx : x.cap.ty = 2 → x.cap.ends ≤ 2048) : LowOk (layX m x) := fun a he ht => by
  unfold layX at he ht ⊢
  by_cases h : x.at_ = a
  · subst h
    by_cases h2 : (thereB m x.at_ && slotRB ⟨x.cap, 0, 0, 0⟩) = true
    · have h3 := h2
      simp only [Bool.and_eq_true] at h3
      have := M.put_get (m := m) (putE_ok.2 h3)
      rw [this] at ht ⊢
      exact hx ht
    · have : m.putX x.at_ ⟨x.cap, 0, 0, 0⟩ = m := by unfold M.putX; rw [if_neg h2]
      rw [this] at he ht ⊢
      exact H _ he ht
  · obtain ⟨e1, e2⟩ := M.put_other (m := m) (t := ⟨x.cap, 0, 0, 0⟩) h
    rw [e1] at ht ⊢
    rw [e2] at he
    exact H _ he ht
theorem LowOk.lays : ∀ (L : List Lay) (m : M), LowOk m → (∀ x, x ∈ L → x.low) → LowOk (L.foldl layX m)
  | [], m, H, _ => H
  | x :: L, m, H, hx => by
    rw [List.foldl_cons]
    exact LowOk.lays L _ (H.put (hx x (by simp)).2.2.2) fun y hy => hx y (by simp [hy])
/-- The slots below are as they were. -/
def LowAs (m k : M) : Prop := ∀ a, a < 2048 → m.getV a = k.getV a ∧ m.getE a = k.getE a
theorem LowAs.lays : ∀ (L : List Lay) (m k : M), LowAs m k → (∀ x, x ∈ L → 2048 ≤ x.at_) → LowAs m (L.foldl layX k)
  | [], m, k, H, _ => H
  | x :: L, m, k, H, hx => by
    rw [List.foldl_cons]
    refine LowAs.lays L _ _ (fun a ha => ?_) fun y hy => hx y (by simp [hy])
    have h1 := hx x (by simp)
    obtain ⟨e1, e2⟩ := M.put_other (m := k) (a := a) (b := x.at_) (t := ⟨x.cap, 0, 0, 0⟩) (by omega)
    unfold layX
    rw [e1, e2]; exact H a ha
theorem someB_bits {w n k : Int} (hk : 0 ≤ k ∧ k ≤ 8) : someB w n k + 1 ≤ 2 ^ k.toNat := by
  unfold someB
  have h3 : (0 : Int) < 2 ^ k.toNat := Int.pow_pos (by omega)
  have := Int.emod_lt_of_pos (w / 2 ^ n.toNat) h3
  omega
theorem way_local (w : Int) : ∀ (f : Nat) (m k : M) (c : Cap) (n : Int), LowOk m → LowAs m k → rightB c = true → c.ty = 2 → c.ends ≤ 2048 → (way false w f m c n).same (way false w f k c n)
  | 0, m, k, c, n, _, _, _, _, _ => ⟨rfl, rfl, rfl⟩
  | f + 1, m, k, c, n, H, A, hr, ht, he => by
    obtain ⟨h1, h2, hb⟩ := node_facts hr ht
    have hs := someB_bits (w := w) (n := n - c.gbits - c.bits) (k := c.bits) ⟨by omega, h2⟩
    have hA : wayA w c n < 2048 := by
      unfold wayA
      unfold Cap.ends at he
      omega
    obtain ⟨e1, e2⟩ := A _ hA
    rw [way, way, ← e1, ← e2]
    split; · exact ⟨rfl, rfl, rfl⟩
    split; · exact ⟨rfl, rfl, rfl⟩
    split; · exact ⟨rfl, rfl, rfl⟩
    split; · exact ⟨rfl, rfl, rfl⟩
    split
    · rename_i g
      refine way_local w f _ _ _ _ ?_ ?_ (M.getV_right g.1) g.2 (H _ g.1 g.2)
      · intro a ha hb
        rw [M.getX_getE] at ha
        rw [M.getX_getV] at hb ⊢
        exact H a ha hb
      · intro a ha
        rw [M.getX_getE, M.getX_getV, M.getX_getE, M.getX_getV]
        exact A a ha
    · exact ⟨rfl, rfl, rfl⟩
theorem rsl_local {low more : List Lay} {c : Cap} {w n : Int} (hl : ∀ x, x ∈ low → x.low) (hm : ∀ x, x ∈ more → 2048 ≤ x.at_) (l1 : low.length ≤ 50) (l2 : more.length ≤ 40) (hr : rightB c = true) (ht : c.ty = 2) (he : c.ends ≤ 2048) :
    (rsl false (laidW low).fresh c w n).same (rsl false (laidW (low ++ more)).fresh c w n) := by
  have e1 : laidW low = low.foldl layX (M.zero 12) := by unfold laidW; rw [List.take_of_length_le (by omega)]
  have e2 : laidW (low ++ more) = more.foldl layX (low.foldl layX (M.zero 12)) := by
    unfold laidW; rw [List.take_of_length_le (by rw [List.length_append]; omega), List.foldl_append]
  have f : ∀ m : M, ∀ a, m.fresh.getV a = m.getV a ∧ m.fresh.getE a = m.getE a := fun m a => ⟨M.getV_w rfl a, M.getE_w rfl a⟩
  by_cases hd : n < 1 ∨ 32 < n
  · rw [rsl_deep ht hr hd, rsl_deep ht hr hd]; exact ⟨rfl, rfl, rfl⟩
  rw [rsl_way ht hr hd, rsl_way ht hr hd]
  refine way_local w 32 _ _ c n (fun a => ?_) (fun a ha => ?_) hr ht he
  · rw [(f _ a).1, (f _ a).2, e1]
    exact LowOk.lays low _ (LowOk.zero 12) hl a
  · rw [(f _ a).1, (f _ a).2, (f _ a).1, (f _ a).2, e1, e2]
    exact LowAs.lays more _ _ (fun _ _ => ⟨rfl, rfl⟩) hm a ha
end Go.Proofs.Ytdlloccodmdnnaa

