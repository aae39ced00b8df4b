/- Law 08: ObjsPlays. -/
import Derived.Test.YtdlloccodmdnnaaZ10
import Derived.Test.YtdlloccodmdnnaaZ29
import Derived.Test.YtdlloccodmdnnaaZ17
/- Law 08: asks. -/
namespace Go.Proofs.Ytdlloccodmdnnaa
open Go.D
set_option linter.all false
set_option maxRecDepth 100000
set_option maxHeartbeats 8000000

theorem tgXC_w (m : M) (a : Int) : (m.tgXC a).w = m.w := by
  unfold M.tgXC; split
  · split
    · rw [M.tks_w, M.tks_w]
    · rw [M.tks_w]
  · rfl
theorem tgXD_w (m : M) (a : Int) : (m.tgXD a).w = m.w := by
  unfold M.tgXD; split
  · rw [M.tks_w, M.tks_w]
  · rfl
theorem rgX_w (m : M) (a i : Int) : (m.rgX a i).w = m.w := by unfold M.rgX; cases plE m a 64 i 15 == 0 <;> rfl
theorem qgX_w (m : M) (a : Int) : (m.qgX a).w = m.w := by unfold M.qgX; split <;> rfl
theorem sgX_w (m : M) (a : Int) : (m.sgX a).w = m.w := by unfold M.sgX; split <;> rfl
theorem plX_w (m : M) (a i : Int) : (m.plX a i).w = m.w := by unfold M.plX; cases plE m a 8 i 7 == 0 <;> rfl
section
variable {m r : M} (hw : m.w = r.w)
include hw
theorem tok_w (a : Int) : m.tok a = r.tok a := by simp only [M.tok, at_w hw]
theorem part_w (x k : Nat) : m.part x k = r.part x k := by simp only [M.part, hw]
theorem tgE_w (a : Int) : m.tgE a = r.tgE a := by simp only [M.tgE, otB_w hw, tok_w hw]
theorem tgV_w (a : Int) : m.tgV a = r.tgV a := by simp only [M.tgV, otB_w hw, tok_w hw, at_w hw, part_w hw]
theorem rgV_w (a i : Int) : m.rgV a i = r.rgV a i := by simp only [M.rgV, plE_w hw, at_w hw]
theorem qgE_w (a : Int) : m.qgE a = r.qgE a := by simp only [M.qgE, otB_w hw, at_w hw]
theorem qgV_w (a : Int) : m.qgV a = r.qgV a := by simp only [M.qgV, otB_w hw, at_w hw]
theorem sgE_w (a : Int) : m.sgE a = r.sgE a := by simp only [M.sgE, otB_w hw, at_w hw]
theorem sgV_w (a : Int) : m.sgV a = r.sgV a := by simp only [M.sgV, otB_w hw, at_w hw]
theorem etE_w (a i : Int) : m.etE a i = r.etE a i := by simp only [M.etE, plE_w hw, at_w hw]
theorem etV_w (a i : Int) : m.etV a i = r.etV a i := by simp only [M.etV, plE_w hw, at_w hw]
theorem rtE_w (a i : Int) : m.rtE a i = r.rtE a i := by simp only [M.rtE, plE_w hw, at_w hw]
theorem rtV_w (a i : Int) : m.rtV a i = r.rtV a i := by simp only [M.rtV, plE_w hw, at_w hw]
end
theorem tgV_len (m : M) (a : Int) : (m.tgV a).rg.length = 16 := by
  unfold M.tgV
  split
  · rename_i h
    rw [Bool.and_eq_true, otB_iff] at h
    exact M.part_len (by omega)
  · rfl
def M.akC (m : M) (a i : Int) : M := (((((m.tgXC a).rgX a i).qgX a).sgX a).plX a i).plX a i
def M.akD (m : M) (a i : Int) : M := (((((m.tgXD a).rgX a i).qgX a).sgX a).plX a i).plX a i
theorem akC_w (m : M) (a i : Int) : (m.akC a i).w = m.w := by rw [M.akC, plX_w, plX_w, sgX_w, qgX_w, rgX_w, tgXC_w]
theorem akD_w (m : M) (a i : Int) : (m.akD a i).w = m.w := by rw [M.akD, plX_w, plX_w, sgX_w, qgX_w, rgX_w, tgXD_w]
def asksM (m r : M) (st : M → M → List Blk) : List V → Res
  | [.s (.i .i64 a), .s (.i .i64 i)] => .ob (m.w = r.w) (.ok (.s (.b true)) [] (st (m.akC a i) (r.akD a i)))
  | _ => .bad
noncomputable def asksG := twoF asksM
noncomputable def TA8 : Tab := addT 33 tcG (addT 82 tdG (addT 41 rggetG (addT 83 rggetG (addT 34 qgetG (addT 84 qgetG (addT 35 sgetG (addT 85 sgetG (addT 36 etgetG (addT 86 etgetG (addT 37 rtgetG (addT 87 rtgetG (noT))))))))))))
theorem TA8_snd : TA8.Snd Try.prog := addT_snd ok33 tc_snd (addT_snd ok82 rtd_snd (addT_snd ok41 rgget_snd (addT_snd ok83 rrgget_snd (addT_snd ok34 qget_snd (addT_snd ok84 rqget_snd (addT_snd ok35 sget_snd (addT_snd ok85 rsget_snd (addT_snd ok36 etget_snd (addT_snd ok86 retget_snd (addT_snd ok37 rtget_snd (addT_snd ok87 rrtget_snd ((noT_snd _)))))))))))))
theorem asks_snd : Snd Try.prog 46 (FSpec.of asksG) := snd_run TA8_snd mixed Try.func46 dc46 400 fun args H K hc hS => by
  obtain ⟨h, m, r, rest, rfl, rfl, hS1⟩ := twoF_spec hS
  clear hS
  unfold asksM at hS1
  split at hS1
  · rename_i x i
    obtain ⟨hw, hR⟩ := hS1
    simp only [spec_ok, M.akC, M.akD] at hR
    have e1 := tgV_w hw x
    have e2 := tgE_w hw x
    have hl := tgV_len r x
    obtain ⟨t, ht⟩ : ∃ t, r.tgV x = t := ⟨_, rfl⟩
    rw [ht] at e1 hl
    have hw1 : (m.tgXC x).w = (r.tgXD x).w := by rw [tgXC_w, tgXD_w, hw]
    obtain ⟨m1, hm1⟩ : ∃ y, m.tgXC x = y := ⟨_, rfl⟩
    obtain ⟨r1, hr1⟩ : ∃ y, r.tgXD x = y := ⟨_, rfl⟩
    rw [hm1, hr1] at hw1 hR
    have e3 := rgV_w hw1 x i
    have e4 := rgE_w hw1 x i
    have hw2 : (m1.rgX x i).w = (r1.rgX x i).w := by rw [rgX_w, rgX_w, hw1]
    obtain ⟨m2, hm2⟩ : ∃ y, m1.rgX x i = y := ⟨_, rfl⟩
    obtain ⟨r2, hr2⟩ : ∃ y, r1.rgX x i = y := ⟨_, rfl⟩
    rw [hm2, hr2] at hw2 hR
    have e5 := qgV_w hw2 x
    have e6 := qgE_w hw2 x
    obtain ⟨q, hq⟩ : ∃ t, r2.qgV x = t := ⟨_, rfl⟩
    rw [hq] at e5
    have hw3 : (m2.qgX x).w = (r2.qgX x).w := by rw [qgX_w, qgX_w, hw2]
    obtain ⟨m3, hm3⟩ : ∃ y, m2.qgX x = y := ⟨_, rfl⟩
    obtain ⟨r3, hr3⟩ : ∃ y, r2.qgX x = y := ⟨_, rfl⟩
    rw [hm3, hr3] at hw3 hR
    have e7 := sgV_w hw3 x
    have e8 := sgE_w hw3 x
    obtain ⟨s, hs⟩ : ∃ t, r3.sgV x = t := ⟨_, rfl⟩
    rw [hs] at e7
    have hw4 : (m3.sgX x).w = (r3.sgX x).w := by rw [sgX_w, sgX_w, hw3]
    obtain ⟨m4, hm4⟩ : ∃ y, m3.sgX x = y := ⟨_, rfl⟩
    obtain ⟨r4, hr4⟩ : ∃ y, r3.sgX x = y := ⟨_, rfl⟩
    rw [hm4, hr4] at hw4 hR
    have e9 := etV_w hw4 x i
    have e10 := etE_w hw4 x i
    obtain ⟨v, hv⟩ : ∃ t, r4.etV x i = t := ⟨_, rfl⟩
    rw [hv] at e9
    have hw5 : (m4.plX x i).w = (r4.plX x i).w := by rw [plX_w, plX_w, hw4]
    obtain ⟨m5, hm5⟩ : ∃ y, m4.plX x i = y := ⟨_, rfl⟩
    obtain ⟨r5, hr5⟩ : ∃ y, r4.plX x i = y := ⟨_, rfl⟩
    rw [hm5, hr5] at hw5 hR
    have e11 := rtV_w hw5 x i
    have e12 := rtE_w hw5 x i
    obtain ⟨a, b, c, d, e, f, g, ii, j, k, l, n, o, p, rg⟩ := t
    obtain ⟨a0, a1, a2, a3, a4, a5, a6, a7, a8, a9, b0, b1, b2, b3, b4, b5, rfl⟩ := rg16 hl
    obtain ⟨s1, s2, s3⟩ := q
    obtain ⟨k1, k2, k3, k4, k5⟩ := s
    obtain ⟨x1, x2, x3, x4⟩ := v
    simp (config := { maxSteps := 10000000 }) only [run_drx, run_xd, run_xq, run_xg, run_xb, EV1, EV2, EV3, EV4, EV5, EV6, addT, istep, lenR_sl, lenR_ns, lenR_es, pickR, putD, bin1R, un1R, slcR, bnd, capsOf, fillP, S_plain, V_plain, V.cells, S_known, V_known, C.v, blk, setL, setH, eqS, eq1, cmpS, cmp1, isNil, popTo, killT, setT, leT, V.below, C.below, S_below, R.below, V.val, C.val, S_val, R.val, R.takes, vals, shows, List.any_cons, List.any_nil, unnamed, V.kill, V.names, C.names, S_names, R.names, List.set, List.replicate, ↓q_cond_t, ↓q_cond_f, if_true, if_false, reduceCtorEq, rvals, rvC, result, C_known, V.noL, C.noL, S_noL, R.noL, Option.map, true_and, and_true, ge_iff_le, gt_iff_lt, implies_true, q_ite_t, q_ite_f, beq_iff_eq, bne_iff_ne, q_ne, Nat.reduceAdd, Nat.reducePow, Int.reducePow, Nat.reduceMul, Nat.reduceSub, Nat.reduceLeDiff, Nat.reduceLT, Nat.reduceEqDiff, Int.reduceNeg, Int.reduceLT, Int.reduceLE, Int.reduceEq, Int.reduceNe, Int.reduceAdd, Int.reduceSub, Int.reduceMul, Int.reduceToNat, Int.reduceBEq, Int.reduceBNe, df46, TA8, tcG, tdG, tcM, tdM, rggetG, rggetM, qgetG, qgetM, sgetG, sgetM, etgetG, etgetM, rtgetG, rtgetM, memF_new1, memF_new2, hm1, hr1, hm2, hr2, hm3, hr3, hm4, hr4, hm5, hr5, ht, hq, hs, hv, e1, e2, e3, e4, e5, e6, e7, e8, e9, e10, e11, e12, Th.c, Qu.cl, Si.cl, En.c, wc_cons, wc_nil, beq_self_eq_true, bne_self_eq_false, put, fillP, sub, List.take_succ_cons, List.take_zero, List.drop_zero]
    exact hR
  · exact hS1.elim
end Go.Proofs.Ytdlloccodmdnnaa

/- Law 08: awake. -/
namespace Go.Proofs.Ytdlloccodmdnnaa
open Go.D
set_option linter.all false
set_option maxRecDepth 100000
set_option maxHeartbeats 8000000

def awake8G : List V → List Blk → Res
  | [], h => .ok (.s (.b true)) [] h
  | _, _ => .bad
noncomputable def TAw : Tab := addT 29 newM (addT 26 dumpG (addT 27 sameWG (addT 39 tsetG (addT 42 qsetG (addT 43 ssetG (addT 45 rtsetG (addT 44 etsetG (addT 37 rtgetG (addT 33 tcG (noT))))))))))
theorem TAw_snd : TAw.Snd Try.prog := addT_snd ok29 new_snd (addT_snd ok26 mdump_snd (addT_snd ok27 sameW_snd (addT_snd ok39 tset_snd' (addT_snd ok42 qset_snd (addT_snd ok43 sset_snd (addT_snd ok45 rtset_snd (addT_snd ok44 etset_snd (addT_snd ok37 rtget_snd (addT_snd ok33 tc_snd ((noT_snd _)))))))))))
def thA : Th := ⟨1, 255, 5, true, 0, 0, 1024, 0, false, false, 2048, 0, 0, 0, List.replicate 16 0⟩
theorem thA_B : thA.B = true := by decide
theorem thA_h : thA.h0 = 28665 ∧ thA.h1 = 576465150349934592 := by decide
theorem thA_u : thA.up ∧ ∀ v, v ∈ thA.rg → u64 v := ⟨by unfold Th.up sml thA; decide, fun v hv => by rw [List.eq_of_mem_replicate hv]; exact u64_0⟩
theorem M.thX_len (m : M) (a : Int) (t : Th) : (m.thX a t).w.length = m.w.length := by
  unfold M.thX; split
  · rw [M.wrs_len, M.wrs_len]
  · rfl
theorem M.qsX_len (m : M) (a : Int) (q : Qu) : (m.qsX a q).w.length = m.w.length := by
  unfold M.qsX; split
  · rw [M.tick_len, M.put_len]
  · rfl
theorem M.ssX_len (m : M) (a : Int) (q : Si) : (m.ssX a q).w.length = m.w.length := by
  unfold M.ssX; split
  · rw [M.tick_len, M.put_len, M.tick_len, M.put_len]
  · rfl
theorem M.tsX_len (m : M) (a i n : Int) : (m.tsX a i n).w.length = m.w.length := by
  unfold M.tsX; cases (plE m a 8 i 7 == 0 && rootB n)
  · rfl
  · rw [cond_true, M.tick_len, M.put_len]
theorem aw_1 {m : M} (hl : m.w.length = 4096) : m.thE 1088 thA = 0 ∧ ((m.thX 1088 thA).w.drop 1104).take 2 = [28665, 576465150349934592] := by
  have ht : otB m 1088 64 = true := otB_iff.2 (by omega)
  refine ⟨by simp only [M.thE, ht, thA_B, if_true], ?_⟩
  refine M.part_ext (by rw [M.thX_len, hl]; decide) rfl ?_
  have hu : ∀ v, v ∈ [thA.h0, thA.h1, thA.bg, thA.h3] → u64 v := by
    obtain ⟨u0, u1, u2, u3⟩ := Th.h_u thA_B
    intro v hv
    simp only [List.mem_cons, List.not_mem_nil, or_false] at hv
    rcases hv with rfl | rfl | rfl | rfl <;> assumption
  intro i hi
  simp only [M.thX, ht, thA_B, Bool.true_and, if_true]
  rw [M.wrs_at _ _ _ thA_u.2 _ 16 (by decide) (by rw [M.wrs_len, hl]; decide), if_neg (by omega), M.wrs_at _ _ _ hu _ 4 (by decide) (by rw [hl]; decide), if_pos (by omega)]
  obtain ⟨h1, h2⟩ := thA_h
  rw [h1, h2]
  match i, hi with
  | 0, _ => rfl
  | 1, _ => rfl
theorem aw_2 {m : M} (hl : m.w.length = 4096) : m.qsE 1024 ⟨2, 1088, 1152⟩ = 0 ∧ ((m.qsX 1024 ⟨2, 1088, 1152⟩).w.drop 1024).take 1 = [301994242] := by
  have ht : otB m 1024 4 = true := otB_iff.2 (by omega)
  have hB : (Qu.B ⟨2, 1088, 1152⟩) = true := by decide
  refine ⟨by simp only [M.qsE, ht, hB, if_true], ?_⟩
  refine M.part_ext (by rw [M.qsX_len, hl]; decide) rfl ?_
  intro i hi
  have : i = 0 := by omega
  subst this
  simp only [M.qsX, ht, hB, Bool.true_and, if_true]
  rw [M.at_tick, M.at_put, if_pos (by omega)]
  rfl
theorem aw_3 {m : M} (hl : m.w.length = 4096) : m.ssE 1032 ⟨2, 0, 0, 5, 1088⟩ = 0 ∧ ((m.ssX 1032 ⟨2, 0, 0, 5, 1088⟩).w.drop 1032).take 2 = [2, 292057776133] := by
  have ht : otB m 1032 8 = true := otB_iff.2 (by omega)
  have hB : (Si.B ⟨2, 0, 0, 5, 1088⟩) = true := by decide
  refine ⟨by simp only [M.ssE, ht, hB, if_true], ?_⟩
  refine M.part_ext (by rw [M.ssX_len, hl]; decide) rfl ?_
  intro i hi
  simp only [M.ssX, ht, hB, Bool.true_and, if_true]
  rw [M.at_tick, M.at_put, M.tick_len, M.put_len, hl]
  match i, hi with
  | 0, _ =>
    rw [if_neg (by decide), M.at_tick, M.at_put, if_pos (by omega)]
    rfl
  | 1, _ =>
    rw [if_pos (by decide)]
    rfl
theorem aw_4 {m : M} (hl : m.w.length = 4096) : m.tsE 1040 3 2048 = 0 ∧ (m.tsX 1040 3 2048).rtE 1040 3 = 0 ∧ (m.tsX 1040 3 2048).rtV 1040 3 = 2048 := by
  have ht : otB m 1040 8 = true := otB_iff.2 (by omega)
  have hi : in3 3 0 7 = true := by decide
  have hp : plE m 1040 8 3 7 = 0 := by simp only [plE, ht, hi, cond_true]
  have hr : rootB 2048 = true := by decide
  have hl2 := M.tsX_len m 1040 3 2048
  have hp2 : plE (m.tsX 1040 3 2048) 1040 8 3 7 = 0 := by
    have ht : otB (m.tsX 1040 3 2048) 1040 8 = true := otB_iff.2 (by omega)
    simp only [plE, ht, hi, cond_true]
  have hat : (m.tsX 1040 3 2048).at (1040 + 3) = 2048 := by
    simp only [M.tsX, hp, hr, show ((0 : Int) == 0) = true from rfl, Bool.true_and, cond_true]
    rw [M.at_tick, M.at_put, if_pos (by omega)]
    rfl
  have hk : rtOk 2048 = true := by decide
  exact ⟨by simp only [M.tsE, hp, hr, show ((0 : Int) == 0) = true from rfl, cond_true], by simp only [M.rtE, hp2, hat, hk, show ((0 : Int) == 0) = true from rfl, cond_true], by simp only [M.rtV, hp2, hat, hk, show ((0 : Int) == 0) = true from rfl, cond_true]⟩
theorem aw_5 {m : M} (hl : m.w.length = 4096) : m.tgE 1056 = 20 ∧ m.tgV 1056 = thZ ∧ m.tgXC 1056 = m ∧ m.esE 1048 8 enZ = 1 ∧ m.esX 1048 8 enZ = m := by
  have ht : otB m 1056 64 = false := by rw [Bool.eq_false_iff, ne_eq, otB_iff]; omega
  have ht2 : otB m 1048 8 = true := otB_iff.2 (by omega)
  have hp : plE m 1048 8 8 7 = 1 := by simp only [plE, ht2, cond_true]; rfl
  refine ⟨?_, ?_, ?_, ?_, ?_⟩
  · simp only [M.tgE, ht, Bool.false_eq_true, if_false]
  · simp only [M.tgV, ht, Bool.false_and, Bool.false_eq_true, if_false]
  · simp only [M.tgXC, ht, Bool.false_eq_true, if_false]
  · simp only [M.esE, hp]; rfl
  · simp only [M.esX, hp]; rfl
theorem awake8_snd : Snd Try.prog 28 (FSpec.of awake8G) := snd_cut TAw_snd mixed Try.func28 dc28 400 fun args h K hc hS => by
  unfold awake8G at hS
  split at hS
  · simp only [spec_ok] at hS
    have l0 : (M.zero 12).w.length = 4096 := M.zero_len 12
    obtain ⟨m0, hm⟩ : ∃ m, M.zero 12 = m := ⟨_, rfl⟩
    rw [hm] at l0
    obtain ⟨a1, a2⟩ := aw_1 l0
    have l1 := M.thX_len m0 1088 thA
    obtain ⟨m1, h1⟩ : ∃ m, m0.thX 1088 thA = m := ⟨_, rfl⟩
    rw [h1] at a2 l1
    rw [l0] at l1
    obtain ⟨b1, b2⟩ := aw_2 l1
    have l2 := M.qsX_len m1 1024 ⟨2, 1088, 1152⟩
    obtain ⟨m2, h2⟩ : ∃ m, m1.qsX 1024 ⟨2, 1088, 1152⟩ = m := ⟨_, rfl⟩
    rw [h2] at b2 l2
    rw [l1] at l2
    obtain ⟨c1, c2'⟩ := aw_3 l2
    have l3 := M.ssX_len m2 1032 ⟨2, 0, 0, 5, 1088⟩
    obtain ⟨m3, h3⟩ : ∃ m, m2.ssX 1032 ⟨2, 0, 0, 5, 1088⟩ = m := ⟨_, rfl⟩
    rw [h3] at c2' l3
    rw [l2] at l3
    obtain ⟨d1, d2, d3⟩ := aw_4 l3
    have l4 := M.tsX_len m3 1040 3 2048
    obtain ⟨m4, h4⟩ : ∃ m, m3.tsX 1040 3 2048 = m := ⟨_, rfl⟩
    rw [h4] at d2 d3 l4
    rw [l3] at l4
    have l5 := congrArg List.length (plX_w m4 1040 3)
    obtain ⟨m5, h5⟩ : ∃ m, m4.plX 1040 3 = m := ⟨_, rfl⟩
    rw [h5, l4] at l5
    obtain ⟨e1, e2, e3, e4, e5⟩ := aw_5 l5
    have hd1 : m1.has 1104 2 = true := M.has_of (by omega)
    have hd2 : m2.has 1024 1 = true := M.has_of (by omega)
    have hd3 : m3.has 1032 2 = true := M.has_of (by omega)
    have hu := thA_u
    simp only [thA, List.replicate] at a1 h1 hu
    simp only [enZ] at e4 e5
    simp (config := { maxSteps := 10000000 }) only [run_drx, run_xd, run_xq, run_xg, run_xb, EV1, EV2, EV3, EV4, EV5, EV6, addT, istep, lenR_sl, lenR_ns, lenR_es, pickR, putD, bin1R, un1R, slcR, bnd, capsOf, fillP, S_plain, V_plain, V.cells, S_known, V_known, C.v, blk, setL, setH, eqS, eq1, cmpS, cmp1, isNil, popTo, killT, setT, leT, V.below, C.below, S_below, R.below, V.val, C.val, S_val, R.val, R.takes, vals, shows, List.any_cons, List.any_nil, unnamed, V.kill, V.names, C.names, S_names, R.names, List.set, List.replicate, ↓q_cond_t, ↓q_cond_f, if_true, if_false, reduceCtorEq, rvals, rvC, result, C_known, V.noL, C.noL, S_noL, R.noL, Option.map, true_and, and_true, ge_iff_le, gt_iff_lt, implies_true, q_ite_t, q_ite_f, beq_iff_eq, bne_iff_ne, q_ne, Nat.reduceAdd, Nat.reducePow, Int.reducePow, Nat.reduceMul, Nat.reduceSub, Nat.reduceLeDiff, Nat.reduceLT, Nat.reduceEqDiff, Int.reduceNeg, Int.reduceLT, Int.reduceLE, Int.reduceEq, Int.reduceNe, Int.reduceAdd, Int.reduceSub, Int.reduceMul, Int.reduceToNat, Int.reduceBEq, Int.reduceBNe, df28, TAw, newM, memF_new, memF_newA, tsetG, tsetM, thF, unwc_cons, unwc_nil, List.length_cons, List.length_nil, qsetG, qsetM, quF, ssetG, ssetM, siF, rtsetG, rtsetM, etsetG, etsetM, enF, rtgetG, rtgetM, tcG, tcM, dumpG, dumpM, hm, h1, h2, h3, h4, h5, a1, b1, c1, d1, d2, d3, e1, e2, e3, e4, e5, hd1, hd2, hd3, thZ_c, Th.up, Qu.up, Si.up, sml, put, fillP, sub, List.take_succ_cons, List.take_zero, List.drop_zero]
    refine ⟨hu.2, fun c _ c1 _ c2 _ => ?_⟩
    rw [a2, b2, c2']
    have q1 : ∀ X : List Blk, listOf (memH h m5 ++ (⟨.rw, wc [28665, 576465150349934592], c⟩ :: X)) (.sl (.g (h.length + 2)) 0 2 c) = some [28665, 576465150349934592] := fun X => listOf_at (st := .rw) (room := c) (by rw [mg0]; rfl) (fun x => BK.noConfusion x) rfl
    have q2 : ∀ (B : Blk) (X : List Blk), listOf (memH h m5 ++ (B :: ⟨.rw, wc [301994242], c1⟩ :: X)) (.sl (.g (h.length + 2 + 1)) 0 1 c1) = some [301994242] := fun B X => listOf_at (st := .rw) (room := c1) (by rw [mg1]; rfl) (fun x => BK.noConfusion x) rfl
    have q3 : ∀ (B B2 : Blk) (X : List Blk), listOf (memH h m5 ++ (B :: B2 :: ⟨.rw, wc [2, 292057776133], c2⟩ :: X)) (.sl (.g (h.length + 2 + 2)) 0 2 c2) = some [2, 292057776133] := fun B B2 X => listOf_at (st := .rw) (room := c2) (by rw [mg1]; rfl) (fun x => BK.noConfusion x) rfl
    have k1 : ∀ (B B2 B3 B4 : Blk) (X : List Blk), listOf (memH h m5 ++ (B :: B2 :: B3 :: B4 :: ⟨.rw, [.i .u64 28665, .i .u64 576465150349934592], 2⟩ :: X)) (.sl (.g (h.length + 2 + 3 + 1)) 0 2 2) = some [28665, 576465150349934592] := fun B B2 B3 B4 X => listOf_at (st := .rw) (room := 2) (by rw [show h.length + 2 + 3 + 1 = h.length + 2 + 4 from rfl, mg1]; rfl) (fun x => BK.noConfusion x) rfl
    have k2 : ∀ (B B2 B3 B4 B5 : Blk) (X : List Blk), listOf (memH h m5 ++ (B :: B2 :: B3 :: B4 :: B5 :: ⟨.rw, [.i .u64 301994242], 1⟩ :: X)) (.sl (.g (h.length + 2 + 3 + 2)) 0 1 1) = some [301994242] := fun B B2 B3 B4 B5 X => listOf_at (st := .rw) (room := 1) (by rw [show h.length + 2 + 3 + 2 = h.length + 2 + 5 from rfl, mg1]; rfl) (fun x => BK.noConfusion x) rfl
    have k3 : ∀ (B B2 B3 B4 B5 B6 : Blk) (X : List Blk), listOf (memH h m5 ++ (B :: B2 :: B3 :: B4 :: B5 :: B6 :: ⟨.rw, [.i .u64 2, .i .u64 292057776133], 2⟩ :: X)) (.sl (.g (h.length + 2 + 3 + 3)) 0 2 2) = some [2, 292057776133] := fun B B2 B3 B4 B5 B6 X => listOf_at (st := .rw) (room := 2) (by rw [show h.length + 2 + 3 + 3 = h.length + 2 + 6 from rfl, mg1]; rfl) (fun x => BK.noConfusion x) rfl
    simp (config := { maxSteps := 10000000 }) only [run_drx, run_xd, run_xq, run_xg, run_xb, EV1, EV2, EV3, EV4, EV5, EV6, addT, istep, lenR_sl, lenR_ns, lenR_es, pickR, putD, bin1R, un1R, slcR, bnd, capsOf, fillP, S_plain, V_plain, V.cells, S_known, V_known, C.v, blk, setL, setH, eqS, eq1, cmpS, cmp1, isNil, popTo, killT, setT, leT, V.below, C.below, S_below, R.below, V.val, C.val, S_val, R.val, R.takes, vals, shows, List.any_cons, List.any_nil, unnamed, V.kill, V.names, C.names, S_names, R.names, List.set, List.replicate, ↓q_cond_t, ↓q_cond_f, if_true, if_false, reduceCtorEq, rvals, rvC, result, C_known, V.noL, C.noL, S_noL, R.noL, Option.map, true_and, and_true, ge_iff_le, gt_iff_lt, implies_true, q_ite_t, q_ite_f, beq_iff_eq, bne_iff_ne, q_ne, Nat.reduceAdd, Nat.reducePow, Int.reducePow, Nat.reduceMul, Nat.reduceSub, Nat.reduceLeDiff, Nat.reduceLT, Nat.reduceEqDiff, Int.reduceNeg, Int.reduceLT, Int.reduceLE, Int.reduceEq, Int.reduceNe, Int.reduceAdd, Int.reduceSub, Int.reduceMul, Int.reduceToNat, Int.reduceBEq, Int.reduceBNe, TAw, sameWG, R.lend, R.unlend, S_ren, C.ren, V.ren, app_taken, app_dropn, app_take0, app_drop0, List.take_succ_cons, List.take_zero, List.drop_succ_cons, List.drop_zero, Nat.not_lt_zero, Nat.lt_irrefl, Nat.add_sub_cancel_left, Nat.not_lt, Nat.le_add_right, Blk.ren, List.map_cons, List.map_nil, q1, q2, q3, k1, k2, k3, mt1, md1, memH_len]
    have hcl : clean (h.length + 2 + 3) (memH h m5 ++ [⟨.rw, wc [28665, 576465150349934592], c⟩, ⟨.rw, wc [301994242], c1⟩, ⟨.rw, wc [2, 292057776133], c2⟩]) = true := memH_cleanA hc (by omega) (by simp [clean, wc_vals])
    refine ⟨hcl, hcl, hcl, ?_⟩
    show Cut _ _ _ (h ++ [_, _] ++ [_, _, _])
    rw [List.append_assoc]
    exact cut_app (Nat.le_refl _) hc rfl hS
  · exact hS.elim
end Go.Proofs.Ytdlloccodmdnnaa

/- Law 08: ObjsZero. -/
namespace Go.Proofs.Ytdlloccodmdnnaa
open Go.D
set_option linter.all false
set_option maxRecDepth 100000
set_option maxHeartbeats 8000000

section
variable {m : M} (hz : m.w = (M.zero 12).w)
include hz
theorem z_at (a : Int) : m.at a = 0 := by rw [at_w hz, M.at_zero]
theorem z_len : m.w.length = 4096 := by rw [hz]; exact M.zero_len 12
theorem z_tok (a : Int) : m.tok a = true := by simp only [M.tok, z_at hz]; decide
theorem z_tgE (a : Int) : m.tgE a = if otB m a 64 then 0 else 20 := by simp only [M.tgE, z_tok hz, if_true]
theorem z_tgV (a : Int) : m.tgV a = thZ := by
  simp only [M.tgV, z_tok hz, Bool.and_true, z_at hz]
  cases h : otB m a 64
  · rfl
  · simp only [if_true]
    have hb := otB_iff.1 h
    have hl := z_len hz
    have : m.part (a + 32).toNat 16 = List.replicate 16 0 := by
      rw [M.part, hz]
      show ((List.replicate (2 ^ min 12 16) (0 : Int)).drop (a + 32).toNat).take 16 = _
      rw [List.drop_replicate, List.take_replicate]
      congr 1
      show min 16 (4096 - (a + 32).toNat) = 16
      omega
    rw [this]; rfl
theorem z_qgE (a : Int) : m.qgE a = if otB m a 4 then 0 else 20 := by
  have : quOk 0 = true := by decide
  simp only [M.qgE, z_at hz, this, if_true]
theorem z_qgV (a : Int) : m.qgV a = quZ := by
  simp only [M.qgV, z_at hz]; split <;> rfl
theorem z_sgE (a : Int) : m.sgE a = if otB m a 8 then 0 else 20 := by
  have : siOk 0 0 = true := by decide
  simp only [M.sgE, z_at hz, this, if_true]
theorem z_sgV (a : Int) : m.sgV a = siZ := by
  simp only [M.sgV, z_at hz]; split <;> rfl
theorem z_etE (a i : Int) : m.etE a i = plE m a 8 i 7 := by
  have : enB 0 = true := by decide
  simp only [M.etE, z_at hz, this, cond_true]
  cases h : (plE m a 8 i 7 == 0)
  · rfl
  · rw [beq_iff_eq] at h; rw [h]; rfl
theorem z_etV (a i : Int) : m.etV a i = enZ := by
  simp only [M.etV, z_at hz]
  have h1 : enB 0 = true := by decide
  have h2 : enOf 0 = enZ := by rfl
  rw [h1, h2]
  cases (plE m a 8 i 7 == 0) <;> rfl
theorem z_rtE (a i : Int) : m.rtE a i = plE m a 8 i 7 := by
  have : rtOk 0 = true := by decide
  simp only [M.rtE, z_at hz, this, cond_true]
  cases h : (plE m a 8 i 7 == 0)
  · rfl
  · rw [beq_iff_eq] at h; rw [h]; rfl
theorem z_rtV (a i : Int) : m.rtV a i = 0 := by
  simp only [M.rtV, z_at hz]
  have h1 : rtOk 0 = true := by decide
  rw [h1]
  cases (plE m a 8 i 7 == 0) <;> rfl
theorem z_tmod {a n : Int} (h1 : 1024 ≤ a) (h2 : a < 4096) (hn : n = 4 ∨ n = 8 ∨ n = 64) : (a.tmod n == 0) = otB m a n := by
  have hl := z_len hz
  rw [Int.tmod_eq_emod_of_nonneg (by omega), Bool.eq_iff_iff, otB_iff, beq_iff_eq]
  rcases hn with rfl | rfl | rfl <;> omega
theorem z_out {a n : Int} (h : a < 1024 ∨ 4096 ≤ a) (hn : n = 4 ∨ n = 8 ∨ n = 64) : otB m a n = false := by
  have hl := z_len hz
  rw [Bool.eq_false_iff, ne_eq, otB_iff]
  rcases hn with rfl | rfl | rfl <;> omega
end
theorem if_0_20 (b : Bool) : ((if b = true then (0 : Int) else 20) == 0) = b := by cases b <;> rfl
theorem pl_0 (m : M) (a i : Int) : (plE m a 8 i 7 == 0) = (otB m a 8 && (decide (0 ≤ i) && decide (i ≤ 7))) := by
  simp only [plE, in3]
  cases otB m a 8
  · rfl
  · cases (decide (0 ≤ i) && decide (i ≤ 7)) <;> rfl
def objsZeroG : List V → List Blk → Res
  | [.s (.i .i64 _), .s (.i .i64 _)], h => .ok (.s (.b true)) [] h
  | _, _ => .bad
noncomputable def T08 : Tab := addT 28 awake8G (addT 29 newM (addT 30 newM (addT 33 tcG (addT 34 qgetG (addT 35 sgetG (addT 36 etgetG (addT 37 rtgetG (addT 41 rggetG (addT 26 dumpG (addT 38 fill2G (addT 18 stepsG (addT 27 sameWG (addT 32 setsG (addT 46 asksG (addT 39 tsetG (addT 40 rgsetG (addT 42 qsetG (addT 43 ssetG (addT 44 etsetG (addT 45 rtsetG (noT)))))))))))))))))))))
theorem T08_snd : T08.Snd Try.prog := addT_snd ok28 awake8_snd (addT_snd ok29 new_snd (addT_snd ok30 rnew_snd (addT_snd ok33 tc_snd (addT_snd ok34 qget_snd (addT_snd ok35 sget_snd (addT_snd ok36 etget_snd (addT_snd ok37 rtget_snd (addT_snd ok41 rgget_snd (addT_snd ok26 mdump_snd (addT_snd ok38 fill2_snd (addT_snd ok18 msteps_snd (addT_snd ok27 sameW_snd (addT_snd ok32 sets_snd (addT_snd ok46 asks_snd (addT_snd ok39 tset_snd' (addT_snd ok40 rgset_snd (addT_snd ok42 qset_snd (addT_snd ok43 sset_snd (addT_snd ok44 etset_snd (addT_snd ok45 rtset_snd ((noT_snd _))))))))))))))))))))))
theorem objsZero_snd : Snd Try.prog 10 (FSpec.of objsZeroG) := snd_cut T08_snd mixed Try.func10 dc10 400 fun args h K hc hS => by
  unfold objsZeroG at hS
  split at hS
  · rename_i x i
    simp only [spec_ok] at hS
    obtain ⟨m0, hm⟩ : ∃ m, M.zero 12 = m := ⟨_, rfl⟩
    have hz0 : m0.w = (M.zero 12).w := by rw [← hm]
    have e1 := z_tgE hz0 x
    have e2 := z_tgV hz0 x
    have hz1 := (tgXC_w m0 x).trans hz0
    obtain ⟨m1, h1⟩ : ∃ m, m0.tgXC x = m := ⟨_, rfl⟩
    rw [h1] at hz1
    have e3 := z_qgE hz1 x
    have e4 := z_qgV hz1 x
    have hz2 := (qgX_w m1 x).trans hz1
    obtain ⟨m2, h2⟩ : ∃ m, m1.qgX x = m := ⟨_, rfl⟩
    rw [h2] at hz2
    have e5 := z_sgE hz2 x
    have e6 := z_sgV hz2 x
    have hz3 := (sgX_w m2 x).trans hz2
    obtain ⟨m3, h3⟩ : ∃ m, m2.sgX x = m := ⟨_, rfl⟩
    rw [h3] at hz3
    have e7 := z_etE hz3 x i
    have e8 := z_etV hz3 x i
    have hz4 := (plX_w m3 x i).trans hz3
    obtain ⟨m4, h4⟩ : ∃ m, m3.plX x i = m := ⟨_, rfl⟩
    rw [h4] at hz4
    have e9 := z_rtE hz4 x i
    have e10 := z_rtV hz4 x i
    have q1 : otB m1 x 4 = otB m0 x 4 := otB_w (hz1.trans hz0.symm) _ _
    have q2 : otB m2 x 8 = otB m0 x 8 := otB_w (hz2.trans hz0.symm) _ _
    have q3 : plE m3 x 8 i 7 = plE m0 x 8 i 7 := plE_w (hz3.trans hz0.symm) _ _ _ _
    have q4 : plE m4 x 8 i 7 = plE m0 x 8 i 7 := plE_w (hz4.trans hz0.symm) _ _ _ _
    rw [q1] at e3
    rw [q2] at e5
    rw [q3] at e7
    rw [q4] at e9
    have p0 := pl_0 m0 x i
    by_cases c1 : x < 1024
    · have o1 := z_out hz0 (a := x) (.inl c1) (.inl rfl)
      have o2 := z_out hz0 (a := x) (.inl c1) (.inr (.inl rfl))
      have o3 := z_out hz0 (a := x) (.inl c1) (.inr (.inr rfl))
      have c1' : ¬ 1024 ≤ x := by omega
      rw [o2, Bool.false_and] at p0
      simp (config := { maxSteps := 10000000 }) only [run_drx, run_xd, run_xq, run_xg, run_xb, EV1, EV2, EV3, EV4, EV5, EV6, addT, istep, lenR_sl, lenR_ns, lenR_es, pickR, putD, bin1R, un1R, slcR, bnd, capsOf, fillP, S_plain, V_plain, V.cells, S_known, V_known, C.v, blk, setL, setH, eqS, eq1, cmpS, cmp1, isNil, popTo, killT, setT, leT, V.below, C.below, S_below, R.below, V.val, C.val, S_val, R.val, R.takes, vals, shows, List.any_cons, List.any_nil, unnamed, V.kill, V.names, C.names, S_names, R.names, List.set, List.replicate, ↓q_cond_t, ↓q_cond_f, if_true, if_false, reduceCtorEq, rvals, rvC, result, C_known, V.noL, C.noL, S_noL, R.noL, Option.map, true_and, and_true, ge_iff_le, gt_iff_lt, implies_true, q_ite_t, q_ite_f, beq_iff_eq, bne_iff_ne, q_ne, Nat.reduceAdd, Nat.reducePow, Int.reducePow, Nat.reduceMul, Nat.reduceSub, Nat.reduceLeDiff, Nat.reduceLT, Nat.reduceEqDiff, Int.reduceNeg, Int.reduceLT, Int.reduceLE, Int.reduceEq, Int.reduceNe, Int.reduceAdd, Int.reduceSub, Int.reduceMul, Int.reduceToNat, Int.reduceBEq, Int.reduceBNe, df10, T08, awake8G, newM, memF_new, tcG, tcM, qgetG, qgetM, sgetG, sgetM, etgetG, etgetM, rtgetG, rtgetM, hm, h1, h2, h3, h4, e1, e2, e3, e4, e5, e6, e7, e8, e9, e10, o1, o2, o3, p0, c1, c1', thZ_c, quZ, siZ, enZ, Qu.cl, Si.cl, En.c, beq_self_eq_true, put, fillP, sub, List.take_succ_cons, List.take_zero, List.drop_zero]
      exact cut_app (Nat.le_refl _) hc rfl hS
    by_cases c2 : x < 4096
    · have o1 := z_tmod hz0 (a := x) (by omega) c2 (.inl rfl)
      have o2 := z_tmod hz0 (a := x) (by omega) c2 (.inr (.inl rfl))
      have o3 := z_tmod hz0 (a := x) (by omega) c2 (.inr (.inr rfl))
      have c1' : 1024 ≤ x := by omega
      obtain ⟨b4, v4⟩ : ∃ b, otB m0 x 4 = b := ⟨_, rfl⟩
      obtain ⟨b8, v8⟩ : ∃ b, otB m0 x 8 = b := ⟨_, rfl⟩
      obtain ⟨b64, v64⟩ : ∃ b, otB m0 x 64 = b := ⟨_, rfl⟩
      obtain ⟨pl, vp⟩ : ∃ b, plE m0 x 8 i 7 = b := ⟨_, rfl⟩
      obtain ⟨j1, w1⟩ : ∃ b, decide (0 ≤ i) = b := ⟨_, rfl⟩
      obtain ⟨j2, w2⟩ : ∃ b, decide (i ≤ 7) = b := ⟨_, rfl⟩
      rw [v4] at o1 e3
      rw [v8] at o2 e5 p0
      rw [v64] at o3 e1
      rw [vp] at e7 e9 p0
      rw [w1, w2] at p0
      have i1 := if_0_20 b4
      have i2 := if_0_20 b8
      have i3 := if_0_20 b64
      simp (config := { maxSteps := 10000000 }) only [run_drx, run_xd, run_xq, run_xg, run_xb, EV1, EV2, EV3, EV4, EV5, EV6, addT, istep, lenR_sl, lenR_ns, lenR_es, pickR, putD, bin1R, un1R, slcR, bnd, capsOf, fillP, S_plain, V_plain, V.cells, S_known, V_known, C.v, blk, setL, setH, eqS, eq1, cmpS, cmp1, isNil, popTo, killT, setT, leT, V.below, C.below, S_below, R.below, V.val, C.val, S_val, R.val, R.takes, vals, shows, List.any_cons, List.any_nil, unnamed, V.kill, V.names, C.names, S_names, R.names, List.set, List.replicate, ↓q_cond_t, ↓q_cond_f, if_true, if_false, reduceCtorEq, rvals, rvC, result, C_known, V.noL, C.noL, S_noL, R.noL, Option.map, true_and, and_true, ge_iff_le, gt_iff_lt, implies_true, q_ite_t, q_ite_f, beq_iff_eq, bne_iff_ne, q_ne, Nat.reduceAdd, Nat.reducePow, Int.reducePow, Nat.reduceMul, Nat.reduceSub, Nat.reduceLeDiff, Nat.reduceLT, Nat.reduceEqDiff, Int.reduceNeg, Int.reduceLT, Int.reduceLE, Int.reduceEq, Int.reduceNe, Int.reduceAdd, Int.reduceSub, Int.reduceMul, Int.reduceToNat, Int.reduceBEq, Int.reduceBNe, df10, T08, awake8G, newM, memF_new, tcG, tcM, qgetG, qgetM, sgetG, sgetM, etgetG, etgetM, rtgetG, rtgetM, hm, h1, h2, h3, h4, e1, e2, e3, e4, e5, e6, e7, e8, e9, e10, o1, o2, o3, p0, c1', c2, w1, w2, i1, i2, i3, thZ_c, quZ, siZ, enZ, Qu.cl, Si.cl, En.c, beq_self_eq_true, put, fillP, sub, List.take_succ_cons, List.take_zero, List.drop_zero]
      have hf : (bif b8 then (b8 && (j1 && j2)) == (j1 && j2) else (b8 && (j1 && j2)) == false) = true := by cases b8 <;> cases j1 <;> cases j2 <;> rfl
      rw [hf]
      exact cut_app (Nat.le_refl _) hc rfl hS
    · have o1 := z_out hz0 (a := x) (.inr (by omega)) (.inl rfl)
      have o2 := z_out hz0 (a := x) (.inr (by omega)) (.inr (.inl rfl))
      have o3 := z_out hz0 (a := x) (.inr (by omega)) (.inr (.inr rfl))
      have c1' : 1024 ≤ x := by omega
      rw [o2, Bool.false_and] at p0
      simp (config := { maxSteps := 10000000 }) only [run_drx, run_xd, run_xq, run_xg, run_xb, EV1, EV2, EV3, EV4, EV5, EV6, addT, istep, lenR_sl, lenR_ns, lenR_es, pickR, putD, bin1R, un1R, slcR, bnd, capsOf, fillP, S_plain, V_plain, V.cells, S_known, V_known, C.v, blk, setL, setH, eqS, eq1, cmpS, cmp1, isNil, popTo, killT, setT, leT, V.below, C.below, S_below, R.below, V.val, C.val, S_val, R.val, R.takes, vals, shows, List.any_cons, List.any_nil, unnamed, V.kill, V.names, C.names, S_names, R.names, List.set, List.replicate, ↓q_cond_t, ↓q_cond_f, if_true, if_false, reduceCtorEq, rvals, rvC, result, C_known, V.noL, C.noL, S_noL, R.noL, Option.map, true_and, and_true, ge_iff_le, gt_iff_lt, implies_true, q_ite_t, q_ite_f, beq_iff_eq, bne_iff_ne, q_ne, Nat.reduceAdd, Nat.reducePow, Int.reducePow, Nat.reduceMul, Nat.reduceSub, Nat.reduceLeDiff, Nat.reduceLT, Nat.reduceEqDiff, Int.reduceNeg, Int.reduceLT, Int.reduceLE, Int.reduceEq, Int.reduceNe, Int.reduceAdd, Int.reduceSub, Int.reduceMul, Int.reduceToNat, Int.reduceBEq, Int.reduceBNe, df10, T08, awake8G, newM, memF_new, tcG, tcM, qgetG, qgetM, sgetG, sgetM, etgetG, etgetM, rtgetG, rtgetM, hm, h1, h2, h3, h4, e1, e2, e3, e4, e5, e6, e7, e8, e9, e10, o1, o2, o3, p0, c1', c2, thZ_c, quZ, siZ, enZ, Qu.cl, Si.cl, En.c, beq_self_eq_true, put, fillP, sub, List.take_succ_cons, List.take_zero, List.drop_zero]
      exact cut_app (Nat.le_refl _) hc rfl hS
  · exact hS.elim
end Go.Proofs.Ytdlloccodmdnnaa

/- Law 08: ObjsPlays. -/
namespace Go.Proofs.Ytdlloccodmdnnaa
open Go.D
set_option linter.all false
set_option maxRecDepth 100000
set_option maxHeartbeats 8000000

/-- So many steps at most. -/
def Adv (k : Int) (m m' : M) : Prop := ∃ j : Int, 0 ≤ j ∧ j ≤ k ∧ (m'.n - m.n) % 18446744073709551616 = j
theorem Adv.refl (m : M) {k : Int} (h : 0 ≤ k) : Adv k m m := ⟨0, by omega, h, by rw [Int.sub_self]; rfl⟩
theorem Adv.tick (m : M) : Adv 1 m (m.tick 1) := ⟨1, by omega, by omega, by
  show (IntKind.i64.wrap (m.n + 1) - m.n) % 18446744073709551616 = 1
  rw [IntKind.wrap_i64]; omega⟩
theorem Adv.ptick (m : M) (i : Nat) (x : Int) : Adv 1 m ((m.put i x).tick 1) := Adv.tick (m.put i x)
theorem Adv.trans {a b : Int} {m k n : M} (h1 : Adv a m k) (h2 : Adv b k n) (hs : a + b ≤ 1000) : Adv (a + b) m n := by
  obtain ⟨i, i1, i2, i3⟩ := h1
  obtain ⟨j, j1, j2, j3⟩ := h2
  exact ⟨i + j, by omega, by omega, by omega⟩
theorem Adv.mono {a b : Int} {m k : M} (h : Adv a m k) (hs : a ≤ b) : Adv b m k := by
  obtain ⟨i, i1, i2, i3⟩ := h
  exact ⟨i, i1, by omega, i3⟩
theorem Adv.le {a : Int} {m k : M} (h : Adv a m k) (hs : a ≤ 1000) : IntKind.i64.wrap (k.n - m.n) ≤ a := by
  obtain ⟨i, i1, i2, i3⟩ := h
  rw [IntKind.wrap_i64]; omega
theorem Adv.tks (m : M) : ∀ k : Nat, k ≤ 100 → Adv k m (m.tks k)
  | 0, _ => Adv.refl m (by omega)
  | k + 1, h => by
    have := (Adv.tks m k (by omega)).trans (Adv.tick (m.tks k)) (by omega)
    rw [show ((k + 1 : Nat) : Int) = k + 1 by omega]
    exact this
theorem Adv.wrs (m : M) (o : Nat) (ws : List Int) : ∀ k : Nat, k ≤ 100 → Adv k m (m.wrs o ws k)
  | 0, _ => Adv.refl m (by omega)
  | k + 1, h => by
    have := (Adv.wrs m o ws k (by omega)).trans (Adv.ptick (m.wrs o ws k) (o + k) (nth 0 ws k)) (by omega)
    rw [show ((k + 1 : Nat) : Int) = k + 1 by omega]
    exact this
theorem thX_adv (m : M) (a : Int) (t : Th) : Adv 20 m (m.thX a t) := by
  unfold M.thX; split
  · exact (Adv.wrs m _ _ 4 (by omega)).trans (Adv.wrs _ _ _ 16 (by omega)) (by omega)
  · exact Adv.refl m (by omega)
theorem rsX_adv (m : M) (a i w : Int) : Adv 20 m (m.rsX a i w) := by
  unfold M.rsX; cases (plE m a 64 i 15 == 0)
  · exact Adv.refl m (by omega)
  · exact (Adv.ptick m _ _).mono (by omega)
theorem qsX_adv (m : M) (a : Int) (q : Qu) : Adv 20 m (m.qsX a q) := by
  unfold M.qsX; split
  · exact (Adv.ptick m _ _).mono (by omega)
  · exact Adv.refl m (by omega)
theorem ssX_adv (m : M) (a : Int) (q : Si) : Adv 20 m (m.ssX a q) := by
  unfold M.ssX; split
  · exact ((Adv.ptick m _ _).trans (Adv.ptick _ _ _) (by omega)).mono (by omega)
  · exact Adv.refl m (by omega)
theorem esX_adv (m : M) (a i : Int) (e : En) : Adv 20 m (m.esX a i e) := by
  unfold M.esX; cases (plE m a 8 i 7 == 0 && e.may)
  · exact Adv.refl m (by omega)
  · exact (Adv.ptick m _ _).mono (by omega)
theorem tsX_adv (m : M) (a i n : Int) : Adv 20 m (m.tsX a i n) := by
  unfold M.tsX; cases (plE m a 8 i 7 == 0 && rootB n)
  · exact Adv.refl m (by omega)
  · exact (Adv.ptick m _ _).mono (by omega)
theorem loadX_adv (m : M) (a : Int) (vs : List Int) : Adv 20 m (m.loadX a vs) := ⟨0, by omega, by omega, by rw [M.loadX_n, Int.sub_self]; rfl⟩
theorem oX_adv (m : M) (o : Oo) : Adv 20 m (m.oX o) := by
  unfold M.oX
  split
  · exact thX_adv m _ _
  split
  · exact rsX_adv m _ _ _
  split
  · exact qsX_adv m _ _
  split
  · exact ssX_adv m _ _
  split
  · exact esX_adv m _ _ _
  split
  · exact tsX_adv m _ _ _
  split
  · exact loadX_adv m _ _
  · exact Adv.refl m (by omega)
theorem akC_adv (m : M) (a i : Int) : Adv 120 m (m.akC a i) := by
  have h1 : ∀ m : M, Adv 20 m (m.tgXC a) := fun m => by
    unfold M.tgXC; split
    · split
      · exact (Adv.tks m 4 (by omega)).trans (Adv.tks _ 16 (by omega)) (by omega)
      · exact (Adv.tks m 4 (by omega)).mono (by omega)
    · exact Adv.refl m (by omega)
  have h2 : ∀ m : M, Adv 1 m (m.rgX a i) := fun m => by
    unfold M.rgX; cases (plE m a 64 i 15 == 0)
    · exact Adv.refl m (by omega)
    · exact Adv.tick m
  have h3 : ∀ m : M, Adv 1 m (m.qgX a) := fun m => by
    unfold M.qgX; split
    · exact Adv.tick m
    · exact Adv.refl m (by omega)
  have h4 : ∀ m : M, Adv 2 m (m.sgX a) := fun m => by
    unfold M.sgX; split
    · exact (Adv.tick m).trans (Adv.tick _) (by omega)
    · exact Adv.refl m (by omega)
  have h5 : ∀ m : M, Adv 1 m (m.plX a i) := fun m => by
    unfold M.plX; cases (plE m a 8 i 7 == 0)
    · exact Adv.refl m (by omega)
    · exact Adv.tick m
  exact (((((h1 m).trans (h2 _) (by omega)).trans (h3 _) (by omega)).trans (h4 _) (by omega)).trans (h5 _) (by omega)).trans (h5 _) (by omega) |>.mono (by omega)
/-! ### words -/
theorem put_w {m r : M} (hw : m.w = r.w) (i : Nat) (x : Int) : (m.put i x).w = (r.put i x).w := by simp only [M.put, hw]
theorem wrs_w {m r : M} (hw : m.w = r.w) (o : Nat) (ws : List Int) : ∀ k, (m.wrs o ws k).w = (r.wrs o ws k).w
  | 0 => hw
  | k + 1 => put_w (wrs_w hw o ws k) _ _
theorem lay_w' : ∀ (vs : List Int) {m r : M} (hw : m.w = r.w) (o : Nat), (m.lay o vs).w = (r.lay o vs).w
  | [], _, _, hw, _ => hw
  | v :: vs, _, _, hw, o => lay_w' vs (put_w hw o v) (o + 1)
section
variable {m r : M} (hw : m.w = r.w)
include hw
theorem thX_w (a : Int) (t : Th) : (m.thX a t).w = (r.thX a t).w := by
  simp only [M.thX, otB_w hw]; split
  · exact wrs_w (wrs_w hw _ _ _) _ _ _
  · exact hw
theorem rsX_w (a i w : Int) : (m.rsX a i w).w = (r.rsX a i w).w := by
  simp only [M.rsX, plE_w hw]; cases (plE r a 64 i 15 == 0)
  · exact hw
  · exact put_w hw _ _
theorem qsX_w (a : Int) (q : Qu) : (m.qsX a q).w = (r.qsX a q).w := by
  simp only [M.qsX, otB_w hw]; split
  · exact put_w hw _ _
  · exact hw
theorem ssX_w (a : Int) (q : Si) : (m.ssX a q).w = (r.ssX a q).w := by
  simp only [M.ssX, otB_w hw]; split
  · exact put_w (m := (m.put _ _).tick 1) (r := (r.put _ _).tick 1) (put_w hw _ _) _ _
  · exact hw
theorem esX_w (a i : Int) (e : En) : (m.esX a i e).w = (r.esX a i e).w := by
  simp only [M.esX, plE_w hw]; cases (plE r a 8 i 7 == 0 && e.may)
  · exact hw
  · exact put_w hw _ _
theorem tsX_w (a i n : Int) : (m.tsX a i n).w = (r.tsX a i n).w := by
  simp only [M.tsX, plE_w hw]; cases (plE r a 8 i 7 == 0 && rootB n)
  · exact hw
  · exact put_w hw _ _
theorem loadX_w (a : Int) (vs : List Int) : (m.loadX a vs).w = (r.loadX a vs).w := by
  simp only [M.loadX, has_w hw]; split
  · exact lay_w' vs hw _
  · exact hw
theorem oX_w (o : Oo) : (m.oX o).w = (r.oX o).w := by
  unfold M.oX
  split
  · exact thX_w hw _ _
  split
  · exact rsX_w hw _ _ _
  split
  · exact qsX_w hw _ _
  split
  · exact ssX_w hw _ _
  split
  · exact esX_w hw _ _ _
  split
  · exact tsX_w hw _ _ _
  split
  · exact loadX_w hw _ _
  · exact hw
end
theorem rsX_len (m : M) (a i w : Int) : (m.rsX a i w).w.length = m.w.length := by
  unfold M.rsX; cases (plE m a 64 i 15 == 0)
  · rfl
  · rw [cond_true, M.tick_len, M.put_len]
theorem esX_len (m : M) (a i : Int) (e : En) : (m.esX a i e).w.length = m.w.length := by
  unfold M.esX; cases (plE m a 8 i 7 == 0 && e.may)
  · rfl
  · rw [cond_true, M.tick_len, M.put_len]
theorem oX_len (m : M) (o : Oo) : (m.oX o).w.length = m.w.length := by
  unfold M.oX
  split
  · exact M.thX_len m _ _
  split
  · exact rsX_len m _ _ _
  split
  · exact M.qsX_len m _ _
  split
  · exact M.ssX_len m _ _
  split
  · exact esX_len m _ _ _
  split
  · exact M.tsX_len m _ _ _
  split
  · exact M.loadX_len m _ _
  · rfl
end Go.Proofs.Ytdlloccodmdnnaa

