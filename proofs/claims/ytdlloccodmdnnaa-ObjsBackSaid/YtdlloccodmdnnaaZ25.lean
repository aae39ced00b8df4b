/- Package objs: threads, the code's. -/
import Derived.Test.YtdlloccodmdnnaaZ10
import Derived.Test.YtdlloccodmdnnaaZ24
/- Package objs: threads, the code's. -/
namespace Go.Proofs.Ytdlloccodmdnnaa
open Go.D
set_option linter.all false
set_option maxRecDepth 100000
set_option maxHeartbeats 8000000

def thCG (args : List V) (h : List Blk) : Res := thF (fun t => .ob t.up (.ok (.tup [.agg [.i .u64 (opV t.l0), .i .u64 (opV t.l1), .i .u64 (opV t.l2), .i .u64 (opV t.l3)], .s (.b t.B)]) [] h)) args
noncomputable def ToH : Tab := addT 113 flagG (addT 80 opackG (noT))
theorem ToH_snd : ToH.Snd Try.prog := addT_snd ok113 flag_snd (addT_snd ok80 opack_snd ((noT_snd _)))
theorem thC_snd : Snd Try.prog 77 (FSpec.of thCG) := snd_run ToH_snd mixed Try.func77 dc77 300 fun args h K hc hS => by
  obtain ⟨t, rfl, hrl, hup, hR⟩ := thF_spec hS
  clear hS
  have hpk := th_pk hup
  simp only [spec_ok, ← hpk] at hR
  simp only [Th.c]
  have k1 := wc_known t.rg
  have k2 : (wc t.rg).all S.noL = true := wc_all (fun _ => rfl) _
  have k3 : (wc t.rg).length = 16 := by rw [wc_len, hrl]
  obtain ⟨q, hq⟩ : ∃ q, fI t.qd = q := ⟨_, rfl⟩
  obtain ⟨g, hg⟩ : ∃ q, fI t.cg = q := ⟨_, rfl⟩
  obtain ⟨i, hi⟩ : ∃ q, fI t.ic = q := ⟨_, rfl⟩
  have e0 : t.l0 = [⟨3, t.st⟩, ⟨8, t.pr⟩, ⟨3, t.sl⟩, ⟨1, q⟩, ⟨1, g⟩, ⟨1, i⟩, ⟨2, t.fk⟩] := by rw [← hq, ← hg, ← hi]; rfl
  have e1 : t.l1 = [⟨16, t.pv⟩, ⟨16, t.nx⟩, ⟨16, t.bl⟩, ⟨16, t.bo⟩] := rfl
  have e2 : t.l2 = [⟨28, t.bg⟩] := rfl
  have e3 : t.l3 = [⟨32, t.ha⟩, ⟨32, t.fa⟩] := rfl

  have a0 : ∀ (hh : List Blk) (r0 r1 r2 r3 : Blk) (room : Nat), arrOf Fi.c (hh ++ [r0, r1, r2, r3, ⟨.rw, [.i .i64 3, .i .i64 t.st, .i .i64 8, .i .i64 t.pr, .i .i64 3, .i .i64 t.sl, .i .i64 1, .i .i64 q, .i .i64 1, .i .i64 g, .i .i64 1, .i .i64 i, .i .i64 2, .i .i64 t.fk], room⟩]) (.sl (.g (hh.length + 4)) 0 7 7) = some [⟨3, t.st⟩, ⟨8, t.pr⟩, ⟨3, t.sl⟩, ⟨1, q⟩, ⟨1, g⟩, ⟨1, i⟩, ⟨2, t.fk⟩] := fun hh r0 r1 r2 r3 room => fi_lent (L := [⟨3, t.st⟩, ⟨8, t.pr⟩, ⟨3, t.sl⟩, ⟨1, q⟩, ⟨1, g⟩, ⟨1, i⟩, ⟨2, t.fk⟩]) rfl rfl (by simp only [List.length_cons]; omega)
  have a1 : ∀ (hh : List Blk) (r0 r1 r2 r3 r4 : Blk) (room : Nat), arrOf Fi.c (hh ++ [r0, r1, r2, r3, r4, ⟨.rw, [.i .i64 16, .i .i64 t.pv, .i .i64 16, .i .i64 t.nx, .i .i64 16, .i .i64 t.bl, .i .i64 16, .i .i64 t.bo], room⟩]) (.sl (.g (hh.length + 5)) 0 4 4) = some [⟨16, t.pv⟩, ⟨16, t.nx⟩, ⟨16, t.bl⟩, ⟨16, t.bo⟩] := fun hh r0 r1 r2 r3 r4 room => fi_lent (L := [⟨16, t.pv⟩, ⟨16, t.nx⟩, ⟨16, t.bl⟩, ⟨16, t.bo⟩]) rfl rfl (by simp only [List.length_cons]; omega)
  have a2 : ∀ (hh : List Blk) (r0 r1 r2 r3 r4 r5 : Blk) (room : Nat), arrOf Fi.c (hh ++ [r0, r1, r2, r3, r4, r5, ⟨.rw, [.i .i64 28, .i .i64 t.bg], room⟩]) (.sl (.g (hh.length + 6)) 0 1 1) = some [⟨28, t.bg⟩] := fun hh r0 r1 r2 r3 r4 r5 room => fi_lent (L := [⟨28, t.bg⟩]) rfl rfl (by simp only [List.length_cons]; omega)
  have a3 : ∀ (hh : List Blk) (r0 r1 r2 r3 r4 r5 r6 : Blk) (room : Nat), arrOf Fi.c (hh ++ [r0, r1, r2, r3, r4, r5, r6, ⟨.rw, [.i .i64 32, .i .i64 t.ha, .i .i64 32, .i .i64 t.fa], room⟩]) (.sl (.g (hh.length + 7)) 0 2 2) = some [⟨32, t.ha⟩, ⟨32, t.fa⟩] := fun hh r0 r1 r2 r3 r4 r5 r6 room => fi_lent (L := [⟨32, t.ha⟩, ⟨32, t.fa⟩]) rfl rfl (by simp only [List.length_cons]; omega)
  obtain ⟨o0, p0⟩ : ∃ v, opB t.l0 = v := ⟨_, rfl⟩
  obtain ⟨v0, s0⟩ : ∃ v, opV t.l0 = v := ⟨_, rfl⟩
  obtain ⟨o1, p1⟩ : ∃ v, opB t.l1 = v := ⟨_, rfl⟩
  obtain ⟨v1, s1⟩ : ∃ v, opV t.l1 = v := ⟨_, rfl⟩
  obtain ⟨o2, p2⟩ : ∃ v, opB t.l2 = v := ⟨_, rfl⟩
  obtain ⟨v2, s2⟩ : ∃ v, opV t.l2 = v := ⟨_, rfl⟩
  obtain ⟨o3, p3⟩ : ∃ v, opB t.l3 = v := ⟨_, rfl⟩
  obtain ⟨v3, s3⟩ : ∃ v, opV t.l3 = v := ⟨_, rfl⟩
  rw [p0, p1, p2, p3, s0, s1, s2, s3] at hR
  rw [e0] at p0 s0
  rw [e1] at p1 s1
  rw [e2] at p2 s2
  rw [e3] at p3 s3
  clear hpk
  simp (config := { maxSteps := 10000000 }) only [run_drx, run_xd, run_xq, run_xg, run_xb, EV1, EV2, EV3, EV4, EV5, EV6, addT, istep, lenR_sl, lenR_ns, lenR_es, pickR, putD, bin1R, un1R, slcR, bnd, capsOf, fillP, S_plain, V_plain, V.cells, S_known, V_known, C.v, blk, setL, setH, eqS, eq1, cmpS, cmp1, isNil, popTo, killT, setT, leT, V.below, C.below, S_below, R.below, V.val, C.val, S_val, R.val, R.takes, vals, shows, List.any_cons, List.any_nil, unnamed, V.kill, V.names, C.names, S_names, R.names, List.set, List.replicate, ↓q_cond_t, ↓q_cond_f, if_true, if_false, reduceCtorEq, rvals, rvC, result, C_known, V.noL, C.noL, S_noL, R.noL, Option.map, true_and, and_true, ge_iff_le, gt_iff_lt, implies_true, q_ite_t, q_ite_f, beq_iff_eq, bne_iff_ne, q_ne, Nat.reduceAdd, Nat.reducePow, Int.reducePow, Nat.reduceMul, Nat.reduceSub, Nat.reduceLeDiff, Nat.reduceLT, Nat.reduceEqDiff, Int.reduceNeg, Int.reduceLT, Int.reduceLE, Int.reduceEq, Int.reduceNe, Int.reduceAdd, Int.reduceSub, Int.reduceMul, Int.reduceToNat, Int.reduceBEq, Int.reduceBNe, df77, ToH, flagG, opackG, hq, hg, hi, k1, k2, k3, wc_take hrl, R.lend, R.unlend, S_ren, C.ren, V.ren, app_taken, app_dropn, app_take0, app_drop0, List.take_succ_cons, List.take_zero, List.drop_succ_cons, List.drop_zero, Nat.not_lt_zero, Nat.lt_irrefl, Nat.add_sub_cancel_left, Nat.not_lt, Nat.le_add_right, nnn, nl0, app_len, a0, a1, a2, a3, p0, p1, p2, p3, s0, s1, s2, s3, hc, Blk.ren, List.map_cons, List.map_nil, Bool.and_assoc, put, fillP, sub, List.take_succ_cons, List.take_zero, List.drop_zero]
  refine ⟨?_, ?_⟩
  · rintro ⟨rfl, rfl, rfl, rfl⟩
    refine ⟨fun c1 c _ => ?_, fun c1 c _ => ?_⟩
    · simpa only [Bool.true_and, c1, decide_true] using hR
    · simpa only [Bool.true_and, c1, decide_false, Bool.false_and] using hR
  · intro c1 c _
    have : (o0 && (o1 && (o2 && (o3 && (decide (t.st ≤ 5) && decide (t.sl ≤ 5)))))) = false := by
      rw [Bool.eq_false_iff]
      intro e
      simp only [Bool.and_eq_true] at e
      exact c1 ⟨e.1, e.2.1, e.2.2.1, e.2.2.2.1⟩
    rwa [this] at hR
/-! ### Thread -/
noncomputable def ToT : Tab := addT 69 otG (addT 70 readG (addT 78 writeG (addT 71 ounpG (addT 77 thCG (noT)))))
theorem ToT_snd : ToT.Snd Try.prog := addT_snd ok69 ot_snd (addT_snd ok70 mread_snd (addT_snd ok78 mwrite_snd (addT_snd ok71 ounp_snd (addT_snd ok77 thC_snd ((noT_snd _))))))
theorem tc_snd : Snd Try.prog 33 (FSpec.of tcG) := snd_run ToT_snd mixed Try.func33 dc33 300 fun args h K hc hS => by
  obtain ⟨a, b, m, rest, rfl, H, hS1⟩ := memF_spec hS
  clear hS
  have hS := hS1
  clear hS1
  unfold tcM at hS
  split at hS
  · rename_i x
    simp only [spec_ok, M.tgE, M.tgV, M.tgXC] at hS
    have n4 : (0 : Int) < 64 ∧ (64 : Int) ≤ 64 := by decide
    cases ht : otB m x 64 with
    | false =>
      simp only [ht, Bool.false_and, Bool.false_eq_true, if_false, setM_self H, thZ_c] at hS
      simp (config := { maxSteps := 10000000 }) only [run_drx, run_xd, run_xq, run_xg, run_xb, EV1, EV2, EV3, EV4, EV5, EV6, addT, istep, lenR_sl, lenR_ns, lenR_es, pickR, putD, bin1R, un1R, slcR, bnd, capsOf, fillP, S_plain, V_plain, V.cells, S_known, V_known, C.v, blk, setL, setH, eqS, eq1, cmpS, cmp1, isNil, popTo, killT, setT, leT, V.below, C.below, S_below, R.below, V.val, C.val, S_val, R.val, R.takes, vals, shows, List.any_cons, List.any_nil, unnamed, V.kill, V.names, C.names, S_names, R.names, List.set, List.replicate, ↓q_cond_t, ↓q_cond_f, if_true, if_false, reduceCtorEq, rvals, rvC, result, C_known, V.noL, C.noL, S_noL, R.noL, Option.map, true_and, and_true, ge_iff_le, gt_iff_lt, implies_true, q_ite_t, q_ite_f, beq_iff_eq, bne_iff_ne, q_ne, Nat.reduceAdd, Nat.reducePow, Int.reducePow, Nat.reduceMul, Nat.reduceSub, Nat.reduceLeDiff, Nat.reduceLT, Nat.reduceEqDiff, Int.reduceNeg, Int.reduceLT, Int.reduceLE, Int.reduceEq, Int.reduceNe, Int.reduceAdd, Int.reduceSub, Int.reduceMul, Int.reduceToNat, Int.reduceBEq, Int.reduceBNe, df33, ToT, otG, memF_eq H, otM, n4, setM_self H, ht, put, fillP, sub, List.take_succ_cons, List.take_zero, List.drop_zero]
      exact hS
    | true =>
      simp only [ht, Bool.true_and, if_true] at hS
      have hb := otB_iff.1 ht
      have hl := m.l
      obtain ⟨i, rfl⟩ : ∃ i : Nat, x = i := ⟨x.toNat, by omega⟩
      obtain ⟨o, ho⟩ : ∃ o, i + 16 = o := ⟨_, rfl⟩
      obtain ⟨o2, ho2⟩ : ∃ o, i + 32 = o := ⟨_, rfl⟩
      have e1 : IntKind.i64.wrap ((i : Int) + 16) = (o : Int) := by rw [wrap64 (by omega) (by omega)]; omega
      have e2 : IntKind.i64.wrap ((i : Int) + 32) = (o2 : Int) := by rw [wrap64 (by omega) (by omega)]; omega
      have hi4 : o + 4 ≤ m.w.length := by omega
      have hi16 : o2 + 16 ≤ m.w.length := by omega
      have hcm : ∀ m', clean (setM h a b m').length (setM h a b m') = true := fun m' => by rw [setM_len]; exact setM_clean H hc H.ltb
      simp (config := { maxSteps := 10000000 }) only [run_drx, run_xd, run_xq, run_xg, run_xb, EV1, EV2, EV3, EV4, EV5, EV6, addT, istep, lenR_sl, lenR_ns, lenR_es, pickR, putD, bin1R, un1R, slcR, bnd, capsOf, fillP, S_plain, V_plain, V.cells, S_known, V_known, C.v, blk, setL, setH, eqS, eq1, cmpS, cmp1, isNil, popTo, killT, setT, leT, V.below, C.below, S_below, R.below, V.val, C.val, S_val, R.val, R.takes, vals, shows, List.any_cons, List.any_nil, unnamed, V.kill, V.names, C.names, S_names, R.names, List.set, List.replicate, ↓q_cond_t, ↓q_cond_f, if_true, if_false, reduceCtorEq, rvals, rvC, result, C_known, V.noL, C.noL, S_noL, R.noL, Option.map, true_and, and_true, ge_iff_le, gt_iff_lt, implies_true, q_ite_t, q_ite_f, beq_iff_eq, bne_iff_ne, q_ne, Nat.reduceAdd, Nat.reducePow, Int.reducePow, Nat.reduceMul, Nat.reduceSub, Nat.reduceLeDiff, Nat.reduceLT, Nat.reduceEqDiff, Int.reduceNeg, Int.reduceLT, Int.reduceLE, Int.reduceEq, Int.reduceNe, Int.reduceAdd, Int.reduceSub, Int.reduceMul, Int.reduceToNat, Int.reduceBEq, Int.reduceBNe, df33, ToT, otG, memF_eq H, otM, n4, setM_self H, ht]
      refine loop_rule (α := Nat) [7, 23, 24, 25, 26, 27, 28, 29, 30, 31, 32, 33, 34, 35, 36, 37] (fun q => [(23, .s (.i .i64 q))]) (fun q => [⟨.rw, thZ.c, 30⟩, ⟨.rw, wc (m.pz o q 4), 4⟩]) (fun q => setM h a b (m.tks q)) (fun q => q ≤ 4) (fun q => 4 - q) 0 (by omega) ?_ ?_
      · rw [M.pz_0, M.tks, setM_self H]
        refine Wk.same rfl rfl ?_
        simp (config := { maxSteps := 10000000 }) only [run_drx, run_xd, run_xq, run_xg, run_xb, EV1, EV2, EV3, EV4, EV5, EV6, addT, istep, lenR_sl, lenR_ns, lenR_es, pickR, putD, bin1R, un1R, slcR, bnd, capsOf, fillP, S_plain, V_plain, V.cells, S_known, V_known, C.v, blk, setL, setH, eqS, eq1, cmpS, cmp1, isNil, popTo, killT, setT, leT, V.below, C.below, S_below, R.below, V.val, C.val, S_val, R.val, R.takes, vals, shows, List.any_cons, List.any_nil, unnamed, V.kill, V.names, C.names, S_names, R.names, List.set, List.replicate, ↓q_cond_t, ↓q_cond_f, if_true, if_false, reduceCtorEq, rvals, rvC, result, C_known, V.noL, C.noL, S_noL, R.noL, Option.map, true_and, and_true, ge_iff_le, gt_iff_lt, implies_true, q_ite_t, q_ite_f, beq_iff_eq, bne_iff_ne, q_ne, Nat.reduceAdd, Nat.reducePow, Int.reducePow, Nat.reduceMul, Nat.reduceSub, Nat.reduceLeDiff, Nat.reduceLT, Nat.reduceEqDiff, Int.reduceNeg, Int.reduceLT, Int.reduceLE, Int.reduceEq, Int.reduceNe, Int.reduceAdd, Int.reduceSub, Int.reduceMul, Int.reduceToNat, Int.reduceBEq, Int.reduceBNe, Int.natCast_zero]
      · rintro X q hq IH
        rcases Nat.lt_or_ge q 4 with h1 | h1
        · have d1 : ((q : Int) < 4) := by omega
          have d3 : (0 : Int) ≤ q := by omega
          have d4 : IntKind.i64.wrap ((q : Int) + 1) = ((q + 1 : Nat) : Int) := by rw [wrap64 (by omega) (by omega)]; omega
          have w1 : IntKind.i64.wrap ((o : Int) + q) = ((o + q : Nat) : Int) := by rw [wrap64 (by omega) (by omega)]; omega
          have h0 : m.has ((o + q : Nat) : Int) 1 = true := M.has_of (by omega)
          have c6 : q + 1 ≤ (wc (m.pz o q 4)).length := by rw [wc_len, M.pz_len hi4 hq]; omega
          have c7 := M.pz_set hi4 h1
          refine run_sound (Tab.ok_Γ _) 100 _ _ _ _ ?_
          simp (config := { maxSteps := 10000000 }) only [run_drx, run_xd, run_xq, run_xg, run_xb, EV1, EV2, EV3, EV4, EV5, EV6, addT, istep, lenR_sl, lenR_ns, lenR_es, pickR, putD, bin1R, un1R, slcR, bnd, capsOf, fillP, S_plain, V_plain, V.cells, S_known, V_known, C.v, blk, setL, setH, eqS, eq1, cmpS, cmp1, isNil, popTo, killT, setT, leT, V.below, C.below, S_below, R.below, V.val, C.val, S_val, R.val, R.takes, vals, shows, List.any_cons, List.any_nil, unnamed, V.kill, V.names, C.names, S_names, R.names, List.set, List.replicate, ↓q_cond_t, ↓q_cond_f, if_true, if_false, reduceCtorEq, rvals, rvC, result, C_known, V.noL, C.noL, S_noL, R.noL, Option.map, true_and, and_true, ge_iff_le, gt_iff_lt, implies_true, q_ite_t, q_ite_f, beq_iff_eq, bne_iff_ne, q_ne, Nat.reduceAdd, Nat.reducePow, Int.reducePow, Nat.reduceMul, Nat.reduceSub, Nat.reduceLeDiff, Nat.reduceLT, Nat.reduceEqDiff, Int.reduceNeg, Int.reduceLT, Int.reduceLE, Int.reduceEq, Int.reduceNe, Int.reduceAdd, Int.reduceSub, Int.reduceMul, Int.reduceToNat, Int.reduceBEq, Int.reduceBNe, ToT, e1, d1, d3, d4, w1, readG, memF_set H, readM, M.tks_has, M.tks_at, h0, h1, c6, c7, Int.toNat_natCast, put]
          exact IH (q + 1) _ (by omega) (by omega) (Wk.same rfl rfl (by simp (config := { maxSteps := 10000000 }) only [run_drx, run_xd, run_xq, run_xg, run_xb, EV1, EV2, EV3, EV4, EV5, EV6, addT, istep, lenR_sl, lenR_ns, lenR_es, pickR, putD, bin1R, un1R, slcR, bnd, capsOf, fillP, S_plain, V_plain, V.cells, S_known, V_known, C.v, blk, setL, setH, eqS, eq1, cmpS, cmp1, isNil, popTo, killT, setT, leT, V.below, C.below, S_below, R.below, V.val, C.val, S_val, R.val, R.takes, vals, shows, List.any_cons, List.any_nil, unnamed, V.kill, V.names, C.names, S_names, R.names, List.set, List.replicate, ↓q_cond_t, ↓q_cond_f, if_true, if_false, reduceCtorEq, rvals, rvC, result, C_known, V.noL, C.noL, S_noL, R.noL, Option.map, true_and, and_true, ge_iff_le, gt_iff_lt, implies_true, q_ite_t, q_ite_f, beq_iff_eq, bne_iff_ne, q_ne, Nat.reduceAdd, Nat.reducePow, Int.reducePow, Nat.reduceMul, Nat.reduceSub, Nat.reduceLeDiff, Nat.reduceLT, Nat.reduceEqDiff, Int.reduceNeg, Int.reduceLT, Int.reduceLE, Int.reduceEq, Int.reduceNe, Int.reduceAdd, Int.reduceSub, Int.reduceMul, Int.reduceToNat, Int.reduceBEq, Int.reduceBNe]))
        · have : q = 4 := by omega
          subst this
          rw [M.pz_all, M.part4 hi4]
          simp only [show ((i : Int) + 16) = ((o : Nat) : Int) by omega, show ((i : Int) + 17) = ((o + 1 : Nat) : Int) by omega, show ((i : Int) + 18) = ((o + 2 : Nat) : Int) by omega, show ((i : Int) + 19) = ((o + 3 : Nat) : Int) by omega, show ((i : Int) + 32).toNat = o2 by omega, M.tok] at hS
          have u0 := m.at_u o
          have u1 := m.at_u ((o + 1 : Nat) : Int)
          have u2 := m.at_u ((o + 2 : Nat) : Int)
          have u3 := m.at_u ((o + 3 : Nat) : Int)
          obtain ⟨w0, q0⟩ : ∃ w, m.at o = w := ⟨_, rfl⟩
          obtain ⟨w1, q1⟩ : ∃ w, m.at ((o + 1 : Nat) : Int) = w := ⟨_, rfl⟩
          obtain ⟨w2, q2⟩ : ∃ w, m.at ((o + 2 : Nat) : Int) = w := ⟨_, rfl⟩
          obtain ⟨w3, q3⟩ : ∃ w, m.at ((o + 3 : Nat) : Int) = w := ⟨_, rfl⟩
          rw [q0] at u0
          rw [q1] at u1
          rw [q2] at u2
          rw [q3] at u3
          simp only [q0, q1, q2, q3] at hS ⊢
          rw [thZ_c]
          clear IH
          have a0 : ∀ (hh : List Blk) (r0 r1 : Blk) (room : Nat), arrOf In.c (hh ++ [r0, r1, ⟨.rw, [.i .i64 3, .i .i64 8, .i .i64 3, .i .i64 1, .i .i64 1, .i .i64 1, .i .i64 2], room⟩]) (.sl (.g (hh.length + 2)) 0 7 7) = some [3, 8, 3, 1, 1, 1, 2] := fun hh r0 r1 room => arr_lent (L := [3, 8, 3, 1, 1, 1, 2]) rfl rfl (by decide)
          have a1 : ∀ (hh : List Blk) (r0 r1 r2 r3 : Blk) (room : Nat), arrOf In.c (hh ++ [r0, r1, r2, r3, ⟨.rw, [.i .i64 16, .i .i64 16, .i .i64 16, .i .i64 16], room⟩]) (.sl (.g (hh.length + 4)) 0 4 4) = some [16, 16, 16, 16] := fun hh r0 r1 r2 r3 room => arr_lent (L := [16, 16, 16, 16]) rfl rfl (by decide)
          have a2 : ∀ (hh : List Blk) (r0 r1 r2 r3 r4 r5 : Blk) (room : Nat), arrOf In.c (hh ++ [r0, r1, r2, r3, r4, r5, ⟨.rw, [.i .i64 28], room⟩]) (.sl (.g (hh.length + 6)) 0 1 1) = some [28] := fun hh r0 r1 r2 r3 r4 r5 room => arr_lent (L := [28]) rfl rfl (by decide)
          have a3 : ∀ (hh : List Blk) (r0 r1 r2 r3 r4 r5 r6 r7 : Blk) (room : Nat), arrOf In.c (hh ++ [r0, r1, r2, r3, r4, r5, r6, r7, ⟨.rw, [.i .i64 32, .i .i64 32], room⟩]) (.sl (.g (hh.length + 8)) 0 2 2) = some [32, 32] := fun hh r0 r1 r2 r3 r4 r5 r6 r7 room => arr_lent (L := [32, 32]) rfl rfl (by decide)
          have b0 := un7_B u0
          have b1 := un4_B u1
          have b2 := un1_B u2
          have b3 := un22_B u3
          have v1 := un4_V u1
          have v3 := un22_V u3
          by_cases c0 : w0 < 524288
          · have v0 := un7_V u0 c0
            by_cases c2 : w2 < 268435456
            · have v2 := un1_V u2 c2
              by_cases c3 : 5 < w0 % 8
              · have hk : thOk w0 w2 = false := by
                  have : ¬ w0 % 8 ≤ 5 := by omega
                  simp only [thOk, this, decide_false, Bool.false_and, Bool.and_false]
                simp only [hk, Bool.false_eq_true, if_false, thZ_c] at hS
                refine run_sound (Tab.ok_Γ _) 300 _ _ _ _ ?_
                simp (config := { maxSteps := 10000000 }) only [run_drx, run_xd, run_xq, run_xg, run_xb, EV1, EV2, EV3, EV4, EV5, EV6, addT, istep, lenR_sl, lenR_ns, lenR_es, pickR, putD, bin1R, un1R, slcR, bnd, capsOf, fillP, S_plain, V_plain, V.cells, S_known, V_known, C.v, blk, setL, setH, eqS, eq1, cmpS, cmp1, isNil, popTo, killT, setT, leT, V.below, C.below, S_below, R.below, V.val, C.val, S_val, R.val, R.takes, vals, shows, List.any_cons, List.any_nil, unnamed, V.kill, V.names, C.names, S_names, R.names, List.set, List.replicate, ↓q_cond_t, ↓q_cond_f, if_true, if_false, reduceCtorEq, rvals, rvC, result, C_known, V.noL, C.noL, S_noL, R.noL, Option.map, true_and, and_true, ge_iff_le, gt_iff_lt, implies_true, q_ite_t, q_ite_f, beq_iff_eq, bne_iff_ne, q_ne, Nat.reduceAdd, Nat.reducePow, Int.reducePow, Nat.reduceMul, Nat.reduceSub, Nat.reduceLeDiff, Nat.reduceLT, Nat.reduceEqDiff, Int.reduceNeg, Int.reduceLT, Int.reduceLE, Int.reduceEq, Int.reduceNe, Int.reduceAdd, Int.reduceSub, Int.reduceMul, Int.reduceToNat, Int.reduceBEq, Int.reduceBNe, ToT, Int.lt_irrefl, wc_cons, wc_nil, ounpG, R.lend, R.unlend, S_ren, C.ren, V.ren, app_taken, app_dropn, app_take0, app_drop0, List.take_succ_cons, List.take_zero, List.drop_succ_cons, List.drop_zero, Nat.not_lt_zero, Nat.lt_irrefl, Nat.add_sub_cancel_left, Nat.not_lt, Nat.le_add_right, nnn, nl0, app_len, a0, a1, a2, a3, u0, u1, u2, u3, b0, b1, b2, b3, v0, v1, v2, v3, c0, c2, ic7, ic4, ic1, ic2, hcm, Blk.ren, List.map_cons, List.map_nil, put, fillP, sub, List.take_succ_cons, List.take_zero, List.drop_zero, c3]
                exact hS
              by_cases c4 : 5 < w0 / 2048 % 8
              · have hk : thOk w0 w2 = false := by
                  have : ¬ w0 / 2048 % 8 ≤ 5 := by omega
                  simp only [thOk, this, decide_false, Bool.false_and, Bool.and_false]
                simp only [hk, Bool.false_eq_true, if_false, thZ_c] at hS
                refine run_sound (Tab.ok_Γ _) 300 _ _ _ _ ?_
                simp (config := { maxSteps := 10000000 }) only [run_drx, run_xd, run_xq, run_xg, run_xb, EV1, EV2, EV3, EV4, EV5, EV6, addT, istep, lenR_sl, lenR_ns, lenR_es, pickR, putD, bin1R, un1R, slcR, bnd, capsOf, fillP, S_plain, V_plain, V.cells, S_known, V_known, C.v, blk, setL, setH, eqS, eq1, cmpS, cmp1, isNil, popTo, killT, setT, leT, V.below, C.below, S_below, R.below, V.val, C.val, S_val, R.val, R.takes, vals, shows, List.any_cons, List.any_nil, unnamed, V.kill, V.names, C.names, S_names, R.names, List.set, List.replicate, ↓q_cond_t, ↓q_cond_f, if_true, if_false, reduceCtorEq, rvals, rvC, result, C_known, V.noL, C.noL, S_noL, R.noL, Option.map, true_and, and_true, ge_iff_le, gt_iff_lt, implies_true, q_ite_t, q_ite_f, beq_iff_eq, bne_iff_ne, q_ne, Nat.reduceAdd, Nat.reducePow, Int.reducePow, Nat.reduceMul, Nat.reduceSub, Nat.reduceLeDiff, Nat.reduceLT, Nat.reduceEqDiff, Int.reduceNeg, Int.reduceLT, Int.reduceLE, Int.reduceEq, Int.reduceNe, Int.reduceAdd, Int.reduceSub, Int.reduceMul, Int.reduceToNat, Int.reduceBEq, Int.reduceBNe, ToT, Int.lt_irrefl, wc_cons, wc_nil, ounpG, R.lend, R.unlend, S_ren, C.ren, V.ren, app_taken, app_dropn, app_take0, app_drop0, List.take_succ_cons, List.take_zero, List.drop_succ_cons, List.drop_zero, Nat.not_lt_zero, Nat.lt_irrefl, Nat.add_sub_cancel_left, Nat.not_lt, Nat.le_add_right, nnn, nl0, app_len, a0, a1, a2, a3, u0, u1, u2, u3, b0, b1, b2, b3, v0, v1, v2, v3, c0, c2, ic7, ic4, ic1, ic2, hcm, Blk.ren, List.map_cons, List.map_nil, put, fillP, sub, List.take_succ_cons, List.take_zero, List.drop_zero, c3, c4]
                exact hS
              have hk : thOk w0 w2 = true := by simp only [thOk, Bool.and_eq_true, decide_eq_true_eq]; omega
              simp only [hk, if_true, thOf, Th.c] at hS
              refine run_sound (Tab.ok_Γ _) 300 _ _ _ _ ?_
              simp (config := { maxSteps := 10000000 }) only [run_drx, run_xd, run_xq, run_xg, run_xb, EV1, EV2, EV3, EV4, EV5, EV6, addT, istep, lenR_sl, lenR_ns, lenR_es, pickR, putD, bin1R, un1R, slcR, bnd, capsOf, fillP, S_plain, V_plain, V.cells, S_known, V_known, C.v, blk, setL, setH, eqS, eq1, cmpS, cmp1, isNil, popTo, killT, setT, leT, V.below, C.below, S_below, R.below, V.val, C.val, S_val, R.val, R.takes, vals, shows, List.any_cons, List.any_nil, unnamed, V.kill, V.names, C.names, S_names, R.names, List.set, List.replicate, ↓q_cond_t, ↓q_cond_f, if_true, if_false, reduceCtorEq, rvals, rvC, result, C_known, V.noL, C.noL, S_noL, R.noL, Option.map, true_and, and_true, ge_iff_le, gt_iff_lt, implies_true, q_ite_t, q_ite_f, beq_iff_eq, bne_iff_ne, q_ne, Nat.reduceAdd, Nat.reducePow, Int.reducePow, Nat.reduceMul, Nat.reduceSub, Nat.reduceLeDiff, Nat.reduceLT, Nat.reduceEqDiff, Int.reduceNeg, Int.reduceLT, Int.reduceLE, Int.reduceEq, Int.reduceNe, Int.reduceAdd, Int.reduceSub, Int.reduceMul, Int.reduceToNat, Int.reduceBEq, Int.reduceBNe, ToT, Int.lt_irrefl, wc_cons, wc_nil, ounpG, R.lend, R.unlend, S_ren, C.ren, V.ren, app_taken, app_dropn, app_take0, app_drop0, List.take_succ_cons, List.take_zero, List.drop_succ_cons, List.drop_zero, Nat.not_lt_zero, Nat.lt_irrefl, Nat.add_sub_cancel_left, Nat.not_lt, Nat.le_add_right, nnn, nl0, app_len, a0, a1, a2, a3, u0, u1, u2, u3, b0, b1, b2, b3, v0, v1, v2, v3, c0, c2, ic7, ic4, ic1, ic2, hcm, Blk.ren, List.map_cons, List.map_nil, put, fillP, sub, List.take_succ_cons, List.take_zero, List.drop_zero, c3, c4]
              refine loop_rule (α := Nat) [17, 135, 136, 137, 138, 139, 140, 141, 142, 143, 144, 145, 146, 147, 148, 149, 150] (fun q => [(135, .s (.i .i64 q))]) (fun q => [⟨.rw, thZ.c, 30⟩, ⟨.rw, [.i .u64 w0, .i .u64 w1, .i .u64 w2, .i .u64 w3], 4⟩, ⟨.rw, ic [3, 8, 3, 1, 1, 1, 2], 7⟩, ⟨.rw, ic [w0 % 8, w0 / 8 % 256, w0 / 2048 % 8, w0 / 16384 % 2, w0 / 32768 % 2, w0 / 65536 % 2, w0 / 131072 % 4], 7⟩, ⟨.rw, ic [16, 16, 16, 16], 4⟩, ⟨.rw, ic [w1 % 65536, w1 / 65536 % 65536, w1 / 4294967296 % 65536, w1 / 281474976710656], 4⟩, ⟨.rw, ic [28], 1⟩, ⟨.rw, ic [w2 % 268435456], 1⟩, ⟨.rw, ic [32, 32], 2⟩, ⟨.rw, ic [w3 % 4294967296, w3 / 4294967296], 2⟩, ⟨.rw, (thOf w0 w1 w2 w3 (m.pz o2 q 16)).c, 30⟩]) (fun q => setM h a b ((m.tks 4).tks q)) (fun q => q ≤ 16) (fun q => 16 - q) 0 (by omega) ?_ ?_
              · rw [M.pz_0]
                refine Wk.same rfl rfl ?_
                simp (config := { maxSteps := 10000000 }) only [run_drx, run_xd, run_xq, run_xg, run_xb, EV1, EV2, EV3, EV4, EV5, EV6, addT, istep, lenR_sl, lenR_ns, lenR_es, pickR, putD, bin1R, un1R, slcR, bnd, capsOf, fillP, S_plain, V_plain, V.cells, S_known, V_known, C.v, blk, setL, setH, eqS, eq1, cmpS, cmp1, isNil, popTo, killT, setT, leT, V.below, C.below, S_below, R.below, V.val, C.val, S_val, R.val, R.takes, vals, shows, List.any_cons, List.any_nil, unnamed, V.kill, V.names, C.names, S_names, R.names, List.set, List.replicate, ↓q_cond_t, ↓q_cond_f, if_true, if_false, reduceCtorEq, rvals, rvC, result, C_known, V.noL, C.noL, S_noL, R.noL, Option.map, true_and, and_true, ge_iff_le, gt_iff_lt, implies_true, q_ite_t, q_ite_f, beq_iff_eq, bne_iff_ne, q_ne, Nat.reduceAdd, Nat.reducePow, Int.reducePow, Nat.reduceMul, Nat.reduceSub, Nat.reduceLeDiff, Nat.reduceLT, Nat.reduceEqDiff, Int.reduceNeg, Int.reduceLT, Int.reduceLE, Int.reduceEq, Int.reduceNe, Int.reduceAdd, Int.reduceSub, Int.reduceMul, Int.reduceToNat, Int.reduceBEq, Int.reduceBNe, Int.natCast_zero]
              · rintro X q hq IH
                rw [thZ_c]
                simp only [thOf, Th.c, ic7, ic4, ic2, ic1]
                rcases Nat.lt_or_ge q 16 with h1 | h1
                · have d1 : ((q : Int) < 16) := by omega
                  have d3 : (0 : Int) ≤ q := by omega
                  have d4 : IntKind.i64.wrap ((q : Int) + 1) = ((q + 1 : Nat) : Int) := by rw [wrap64 (by omega) (by omega)]; omega
                  have w1 : IntKind.i64.wrap ((o2 : Int) + q) = ((o2 + q : Nat) : Int) := by rw [wrap64 (by omega) (by omega)]; omega
                  have h0 : m.has ((o2 + q : Nat) : Int) 1 = true := M.has_of (by omega)
                  have c5 : (wc (m.pz o2 q 16)).length = 16 := by rw [wc_len, M.pz_len hi16 hq]
                  have c6 : 14 + q + 1 ≤ 30 := by omega
                  have c7 := M.pz_set hi16 h1
                  refine run_sound (Tab.ok_Γ _) 100 _ _ _ _ ?_
                  simp (config := { maxSteps := 10000000 }) only [run_drx, run_xd, run_xq, run_xg, run_xb, EV1, EV2, EV3, EV4, EV5, EV6, addT, istep, lenR_sl, lenR_ns, lenR_es, pickR, putD, bin1R, un1R, slcR, bnd, capsOf, fillP, S_plain, V_plain, V.cells, S_known, V_known, C.v, blk, setL, setH, eqS, eq1, cmpS, cmp1, isNil, popTo, killT, setT, leT, V.below, C.below, S_below, R.below, V.val, C.val, S_val, R.val, R.takes, vals, shows, List.any_cons, List.any_nil, unnamed, V.kill, V.names, C.names, S_names, R.names, List.set, List.replicate, ↓q_cond_t, ↓q_cond_f, if_true, if_false, reduceCtorEq, rvals, rvC, result, C_known, V.noL, C.noL, S_noL, R.noL, Option.map, true_and, and_true, ge_iff_le, gt_iff_lt, implies_true, q_ite_t, q_ite_f, beq_iff_eq, bne_iff_ne, q_ne, Nat.reduceAdd, Nat.reducePow, Int.reducePow, Nat.reduceMul, Nat.reduceSub, Nat.reduceLeDiff, Nat.reduceLT, Nat.reduceEqDiff, Int.reduceNeg, Int.reduceLT, Int.reduceLE, Int.reduceEq, Int.reduceNe, Int.reduceAdd, Int.reduceSub, Int.reduceMul, Int.reduceToNat, Int.reduceBEq, Int.reduceBNe, ToT, e2, d1, d3, d4, w1, readG, memF_set H, readM, M.tks_has, M.tks_at, h0, h1, c5, c6, c7, set14, Int.toNat_natCast, put]
                  exact IH (q + 1) _ (by omega) (by omega) (Wk.same rfl rfl (by simp (config := { maxSteps := 10000000 }) only [run_drx, run_xd, run_xq, run_xg, run_xb, EV1, EV2, EV3, EV4, EV5, EV6, addT, istep, lenR_sl, lenR_ns, lenR_es, pickR, putD, bin1R, un1R, slcR, bnd, capsOf, fillP, S_plain, V_plain, V.cells, S_known, V_known, C.v, blk, setL, setH, eqS, eq1, cmpS, cmp1, isNil, popTo, killT, setT, leT, V.below, C.below, S_below, R.below, V.val, C.val, S_val, R.val, R.takes, vals, shows, List.any_cons, List.any_nil, unnamed, V.kill, V.names, C.names, S_names, R.names, List.set, List.replicate, ↓q_cond_t, ↓q_cond_f, if_true, if_false, reduceCtorEq, rvals, rvC, result, C_known, V.noL, C.noL, S_noL, R.noL, Option.map, true_and, and_true, ge_iff_le, gt_iff_lt, implies_true, q_ite_t, q_ite_f, beq_iff_eq, bne_iff_ne, q_ne, Nat.reduceAdd, Nat.reducePow, Int.reducePow, Nat.reduceMul, Nat.reduceSub, Nat.reduceLeDiff, Nat.reduceLT, Nat.reduceEqDiff, Int.reduceNeg, Int.reduceLT, Int.reduceLE, Int.reduceEq, Int.reduceNe, Int.reduceAdd, Int.reduceSub, Int.reduceMul, Int.reduceToNat, Int.reduceBEq, Int.reduceBNe]))
                · have : q = 16 := by omega
                  subst this
                  rw [M.pz_all]
                  have hpl : (m.part o2 16).length = 16 := M.part_len hi16
                  have hwl : 16 ≤ (wc (m.part o2 16)).length := by rw [wc_len, hpl]; exact Nat.le_refl _
                  have hnl : (wc (m.part o2 16)).all S.noL = true := wc_all (fun _ => rfl) _
                  have hput : put [.i .u64 0, .i .u64 0, .i .u64 0, .i .u64 0, .i .u64 0, .i .u64 0, .i .u64 0, .i .u64 0, .i .u64 0, .i .u64 0, .i .u64 0, .i .u64 0, .i .u64 0, .i .u64 0, .i .u64 0, .i .u64 0] 0 (wc (m.part o2 16)) = wc (m.part o2 16) := put_all (by rw [wc_len, hpl]; rfl)
                  clear IH
                  refine run_sound (Tab.ok_Γ _) 100 _ _ _ _ ?_
                  simp (config := { maxSteps := 10000000 }) only [run_drx, run_xd, run_xq, run_xg, run_xb, EV1, EV2, EV3, EV4, EV5, EV6, addT, istep, lenR_sl, lenR_ns, lenR_es, pickR, putD, bin1R, un1R, slcR, bnd, capsOf, fillP, S_plain, V_plain, V.cells, S_known, V_known, C.v, blk, setL, setH, eqS, eq1, cmpS, cmp1, isNil, popTo, killT, setT, leT, V.below, C.below, S_below, R.below, V.val, C.val, S_val, R.val, R.takes, vals, shows, List.any_cons, List.any_nil, unnamed, V.kill, V.names, C.names, S_names, R.names, List.set, List.replicate, ↓q_cond_t, ↓q_cond_f, if_true, if_false, reduceCtorEq, rvals, rvC, result, C_known, V.noL, C.noL, S_noL, R.noL, Option.map, true_and, and_true, ge_iff_le, gt_iff_lt, implies_true, q_ite_t, q_ite_f, beq_iff_eq, bne_iff_ne, q_ne, Nat.reduceAdd, Nat.reducePow, Int.reducePow, Nat.reduceMul, Nat.reduceSub, Nat.reduceLeDiff, Nat.reduceLT, Nat.reduceEqDiff, Int.reduceNeg, Int.reduceLT, Int.reduceLE, Int.reduceEq, Int.reduceNe, Int.reduceAdd, Int.reduceSub, Int.reduceMul, Int.reduceToNat, Int.reduceBEq, Int.reduceBNe, Int.lt_irrefl, hpl, hwl, hnl, hput, wc_take hpl, wc_known, put, fillP, sub, List.take_succ_cons, List.take_zero, List.drop_zero]
                  exact ⟨⟨by rw [wc_len, hpl], wc_takes _ _ _ _⟩, hS⟩
            · have v2 := un1_f u2 c2
              have hk : thOk w0 w2 = false := by simp only [thOk, c2, decide_false, Bool.false_and, Bool.and_false]
              simp only [hk, Bool.false_eq_true, if_false, thZ_c] at hS
              refine run_sound (Tab.ok_Γ _) 300 _ _ _ _ ?_
              simp (config := { maxSteps := 10000000 }) only [run_drx, run_xd, run_xq, run_xg, run_xb, EV1, EV2, EV3, EV4, EV5, EV6, addT, istep, lenR_sl, lenR_ns, lenR_es, pickR, putD, bin1R, un1R, slcR, bnd, capsOf, fillP, S_plain, V_plain, V.cells, S_known, V_known, C.v, blk, setL, setH, eqS, eq1, cmpS, cmp1, isNil, popTo, killT, setT, leT, V.below, C.below, S_below, R.below, V.val, C.val, S_val, R.val, R.takes, vals, shows, List.any_cons, List.any_nil, unnamed, V.kill, V.names, C.names, S_names, R.names, List.set, List.replicate, ↓q_cond_t, ↓q_cond_f, if_true, if_false, reduceCtorEq, rvals, rvC, result, C_known, V.noL, C.noL, S_noL, R.noL, Option.map, true_and, and_true, ge_iff_le, gt_iff_lt, implies_true, q_ite_t, q_ite_f, beq_iff_eq, bne_iff_ne, q_ne, Nat.reduceAdd, Nat.reducePow, Int.reducePow, Nat.reduceMul, Nat.reduceSub, Nat.reduceLeDiff, Nat.reduceLT, Nat.reduceEqDiff, Int.reduceNeg, Int.reduceLT, Int.reduceLE, Int.reduceEq, Int.reduceNe, Int.reduceAdd, Int.reduceSub, Int.reduceMul, Int.reduceToNat, Int.reduceBEq, Int.reduceBNe, ToT, Int.lt_irrefl, wc_cons, wc_nil, ounpG, R.lend, R.unlend, S_ren, C.ren, V.ren, app_taken, app_dropn, app_take0, app_drop0, List.take_succ_cons, List.take_zero, List.drop_succ_cons, List.drop_zero, Nat.not_lt_zero, Nat.lt_irrefl, Nat.add_sub_cancel_left, Nat.not_lt, Nat.le_add_right, nnn, nl0, app_len, a0, a1, a2, a3, u0, u1, u2, u3, b0, b1, b2, b3, v0, v1, v2, v3, c0, c2, ic7, ic4, ic1, ic2, hcm, Blk.ren, List.map_cons, List.map_nil, put, fillP, sub, List.take_succ_cons, List.take_zero, List.drop_zero]
              exact hS
          · have v0 := un7_f u0 c0
            have hk : thOk w0 w2 = false := by simp only [thOk, c0, decide_false, Bool.false_and]
            simp only [hk, Bool.false_eq_true, if_false, thZ_c] at hS
            by_cases c2 : w2 < 268435456
            · have v2 := un1_V u2 c2
              refine run_sound (Tab.ok_Γ _) 300 _ _ _ _ ?_
              simp (config := { maxSteps := 10000000 }) only [run_drx, run_xd, run_xq, run_xg, run_xb, EV1, EV2, EV3, EV4, EV5, EV6, addT, istep, lenR_sl, lenR_ns, lenR_es, pickR, putD, bin1R, un1R, slcR, bnd, capsOf, fillP, S_plain, V_plain, V.cells, S_known, V_known, C.v, blk, setL, setH, eqS, eq1, cmpS, cmp1, isNil, popTo, killT, setT, leT, V.below, C.below, S_below, R.below, V.val, C.val, S_val, R.val, R.takes, vals, shows, List.any_cons, List.any_nil, unnamed, V.kill, V.names, C.names, S_names, R.names, List.set, List.replicate, ↓q_cond_t, ↓q_cond_f, if_true, if_false, reduceCtorEq, rvals, rvC, result, C_known, V.noL, C.noL, S_noL, R.noL, Option.map, true_and, and_true, ge_iff_le, gt_iff_lt, implies_true, q_ite_t, q_ite_f, beq_iff_eq, bne_iff_ne, q_ne, Nat.reduceAdd, Nat.reducePow, Int.reducePow, Nat.reduceMul, Nat.reduceSub, Nat.reduceLeDiff, Nat.reduceLT, Nat.reduceEqDiff, Int.reduceNeg, Int.reduceLT, Int.reduceLE, Int.reduceEq, Int.reduceNe, Int.reduceAdd, Int.reduceSub, Int.reduceMul, Int.reduceToNat, Int.reduceBEq, Int.reduceBNe, ToT, Int.lt_irrefl, wc_cons, wc_nil, ounpG, R.lend, R.unlend, S_ren, C.ren, V.ren, app_taken, app_dropn, app_take0, app_drop0, List.take_succ_cons, List.take_zero, List.drop_succ_cons, List.drop_zero, Nat.not_lt_zero, Nat.lt_irrefl, Nat.add_sub_cancel_left, Nat.not_lt, Nat.le_add_right, nnn, nl0, app_len, a0, a1, a2, a3, u0, u1, u2, u3, b0, b1, b2, b3, v0, v1, v2, v3, c0, c2, ic7, ic4, ic1, ic2, hcm, Blk.ren, List.map_cons, List.map_nil, put, fillP, sub, List.take_succ_cons, List.take_zero, List.drop_zero]
              exact hS
            · have v2 := un1_f u2 c2
              refine run_sound (Tab.ok_Γ _) 300 _ _ _ _ ?_
              simp (config := { maxSteps := 10000000 }) only [run_drx, run_xd, run_xq, run_xg, run_xb, EV1, EV2, EV3, EV4, EV5, EV6, addT, istep, lenR_sl, lenR_ns, lenR_es, pickR, putD, bin1R, un1R, slcR, bnd, capsOf, fillP, S_plain, V_plain, V.cells, S_known, V_known, C.v, blk, setL, setH, eqS, eq1, cmpS, cmp1, isNil, popTo, killT, setT, leT, V.below, C.below, S_below, R.below, V.val, C.val, S_val, R.val, R.takes, vals, shows, List.any_cons, List.any_nil, unnamed, V.kill, V.names, C.names, S_names, R.names, List.set, List.replicate, ↓q_cond_t, ↓q_cond_f, if_true, if_false, reduceCtorEq, rvals, rvC, result, C_known, V.noL, C.noL, S_noL, R.noL, Option.map, true_and, and_true, ge_iff_le, gt_iff_lt, implies_true, q_ite_t, q_ite_f, beq_iff_eq, bne_iff_ne, q_ne, Nat.reduceAdd, Nat.reducePow, Int.reducePow, Nat.reduceMul, Nat.reduceSub, Nat.reduceLeDiff, Nat.reduceLT, Nat.reduceEqDiff, Int.reduceNeg, Int.reduceLT, Int.reduceLE, Int.reduceEq, Int.reduceNe, Int.reduceAdd, Int.reduceSub, Int.reduceMul, Int.reduceToNat, Int.reduceBEq, Int.reduceBNe, ToT, Int.lt_irrefl, wc_cons, wc_nil, ounpG, R.lend, R.unlend, S_ren, C.ren, V.ren, app_taken, app_dropn, app_take0, app_drop0, List.take_succ_cons, List.take_zero, List.drop_succ_cons, List.drop_zero, Nat.not_lt_zero, Nat.lt_irrefl, Nat.add_sub_cancel_left, Nat.not_lt, Nat.le_add_right, nnn, nl0, app_len, a0, a1, a2, a3, u0, u1, u2, u3, b0, b1, b2, b3, v0, v1, v2, v3, c0, c2, ic7, ic4, ic1, ic2, hcm, Blk.ren, List.map_cons, List.map_nil, put, fillP, sub, List.take_succ_cons, List.take_zero, List.drop_zero]
              exact hS
  · exact hS.elim
end Go.Proofs.Ytdlloccodmdnnaa

