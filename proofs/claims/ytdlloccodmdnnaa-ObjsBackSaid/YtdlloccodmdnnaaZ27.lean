/- Law 08: ObjsBack: the walk's cases. -/
import Derived.Test.YtdlloccodmdnnaaZ26
import Derived.Test.YtdlloccodmdnnaaZ10
import Derived.Test.YtdlloccodmdnnaaZ16
/- Law 08: ObjsBack: plain; the end of the walk. -/
namespace Go.Proofs.Ytdlloccodmdnnaa
open Go.D
set_option linter.all false
set_option maxRecDepth 100000
set_option maxHeartbeats 8000000

theorem oo_known (o : Oo) : known o.cl = true := by
  have := wc_known o.t.rg
  simp only [known] at this
  simp [known, Oo.cl, Th.c, Qu.cl, Si.cl, En.c, this]
theorem oo_noL (o : Oo) : o.cl.all S.noL = true := by
  have : (wc o.t.rg).all S.noL = true := wc_all (fun _ => rfl) _
  simp [Oo.cl, Th.c, Qu.cl, Si.cl, En.c, this, S.noL]
noncomputable def objsBackG : List V → List Blk → Res
  | [.agg a], h => match ooOf a with
    | some o => .ob o.u (.ok (.s (.b true)) [] h)
    | _ => .bad
  | _, _ => .bad
theorem objsBack_law' {h : List Blk} {K : V → List Blk → Prop} {o : Oo} (ho : o.u) (hS : K (.s (.b true)) h) : (objsBackG [.agg o.cl] h).spec K := by
  simp only [objsBackG, ooOf_eq]
  exact ⟨ho, hS⟩
/-! ### what was set is told -/
theorem thX_get {m : M} {a : Int} {t : Th} (hu : ∀ v, v ∈ t.rg → u64 v) (hl : t.rg.length = 16) (h : m.thE a t = 0) : (m.thX a t).tgE a = 0 ∧ (m.thX a t).tgV a = t := by
  have ht : otB m a 64 = true := by
    cases e : otB m a 64
    · simp [M.thE, e] at h
    · rfl
  have hB : t.B = true := by
    cases e : t.B
    · simp [M.thE, ht, e] at h
    · rfl
  have hb := otB_iff.1 ht
  obtain ⟨i, rfl⟩ : ∃ i : Nat, a = i := ⟨a.toNat, by omega⟩
  have hx : m.thX i t = (m.wrs (i + 16) [t.h0, t.h1, t.bg, t.h3] 4).wrs (i + 32) t.rg 16 := by
    unfold M.thX
    rw [ht, hB]
    rw [show ((i : Int) + 16).toNat = i + 16 by omega, show ((i : Int) + 32).toNat = i + 32 by omega]; rfl
  have hws : ∀ v, v ∈ [t.h0, t.h1, t.bg, t.h3] → u64 v := by
    obtain ⟨u0, u1, u2, u3⟩ := Th.h_u hB
    intro v hv
    simp only [List.mem_cons, List.not_mem_nil, or_false] at hv
    rcases hv with rfl | rfl | rfl | rfl <;> assumption
  have hlen : (m.thX i t).w.length = m.w.length := M.thX_len m _ _
  have ht2 : otB (m.thX i t) i 64 = true := by rw [← ht]; simp only [otB, hlen]
  have hat : ∀ k : Nat, k < 4 → (m.thX i t).at ((i : Int) + (16 + k : Nat)) = nth 0 [t.h0, t.h1, t.bg, t.h3] k := fun k hk => by
    rw [hx, M.wrs_at _ _ _ hu _ 16 (by omega) (by rw [M.wrs_len]; omega), if_neg (by omega), M.wrs_at _ _ _ hws _ 4 (by simp) (by omega), if_pos (by omega)]
    congr 1; omega
  have a0 : (m.thX i t).at ((i : Int) + 16) = t.h0 := hat 0 (by omega)
  have a1 : (m.thX i t).at ((i : Int) + 17) = t.h1 := hat 1 (by omega)
  have a2 : (m.thX i t).at ((i : Int) + 18) = t.bg := hat 2 (by omega)
  have a3 : (m.thX i t).at ((i : Int) + 19) = t.h3 := hat 3 (by omega)
  have hok := Th.ok hB
  have hp : (m.thX i t).part ((i : Int) + 32).toNat 16 = t.rg := by
    rw [show ((i : Int) + 32).toNat = i + 32 by omega]
    refine M.part_ext (by rw [hlen]; omega) hl fun k hk => ?_
    rw [hx, M.wrs_at _ _ _ hu _ 16 (by omega) (by rw [M.wrs_len]; omega), if_pos (by omega)]
    congr 1; omega
  refine ⟨?_, ?_⟩
  · simp only [M.tgE, ht2, M.tok, a0, a2, hok, if_true]
  · simp only [M.tgV, ht2, M.tok, a0, a1, a2, a3, hok, hp, Bool.and_self, if_true]
    exact thOf_of hB
theorem rsX_get {m : M} {a i w : Int} (hu : u64 w) (h : m.rgE a i = 0) : (m.rsX a i w).rgE a i = 0 ∧ (m.rsX a i w).rgV a i = w := by
  have h0 : (plE m a 64 i 15 == 0) = true := by rw [beq_iff_eq]; exact h
  have e := pl_in h0
  have hlen := rsX_len m a i w
  have hp : plE (m.rsX a i w) a 64 i 15 = plE m a 64 i 15 := by simp only [plE, otB, hlen]
  refine ⟨by rw [M.rgE, hp]; exact h, ?_⟩
  rw [M.rgV, hp, h0, cond_true, M.rsX, h0, cond_true, M.at_tick, M.at_put, if_pos (by omega), uw_of hu]
theorem qsX_get {m : M} {a : Int} {q : Qu} (h : m.qsE a q = 0) : (m.qsX a q).qgE a = 0 ∧ (m.qsX a q).qgV a = q := by
  have ht : otB m a 4 = true := by
    cases e : otB m a 4
    · simp [M.qsE, e] at h
    · rfl
  have hB : q.B = true := by
    cases e : q.B
    · simp [M.qsE, ht, e] at h
    · rfl
  have hb := otB_iff.1 ht
  have hlen : (m.qsX a q).w.length = m.w.length := M.qsX_len m _ _
  have ht2 : otB (m.qsX a q) a 4 = true := by rw [← ht]; simp only [otB, hlen]
  have hat : (m.qsX a q).at a = q.w := by
    simp only [M.qsX, ht, hB, Bool.and_self, if_true]
    rw [M.at_tick, M.at_put, if_pos (by omega), uw_of (Qu.w_u hB)]
  have hok : quOk q.w = true := by
    have := Qu.B_u hB
    have h2 : q.w < 17179869184 := by simp only [Qu.w]; omega
    simp only [quOk, quOf_of hB, hB, Bool.and_true, decide_eq_true_eq]; exact h2
  exact ⟨by simp only [M.qgE, ht2, hat, hok, if_true], by simp only [M.qgV, ht2, hat, hok, Bool.and_self, if_true]; exact quOf_of hB⟩
theorem ssX_get {m : M} {a : Int} {q : Si} (h : m.ssE a q = 0) : (m.ssX a q).sgE a = 0 ∧ (m.ssX a q).sgV a = q := by
  have ht : otB m a 8 = true := by
    cases e : otB m a 8
    · simp [M.ssE, e] at h
    · rfl
  have hB : q.B = true := by
    cases e : q.B
    · simp [M.ssE, ht, e] at h
    · rfl
  have hb := otB_iff.1 ht
  have hlen : (m.ssX a q).w.length = m.w.length := M.ssX_len m _ _
  have ht2 : otB (m.ssX a q) a 8 = true := by rw [← ht]; simp only [otB, hlen]
  obtain ⟨hu, hv⟩ := Si.w_u hB
  have hat : (m.ssX a q).at a = q.v := by
    simp only [M.ssX, ht, hB, Bool.and_self, if_true]
    rw [M.at_tick, M.at_put, if_neg (by omega), M.at_tick, M.at_put, if_pos (by omega), uw_of hu]
  have hat2 : (m.ssX a q).at (a + 1) = q.w := by
    simp only [M.ssX, ht, hB, Bool.and_self, if_true]
    rw [M.at_tick, M.at_put, if_pos ⟨rfl, by rw [M.tick_len, M.put_len]; omega⟩, uw_of hv]
  have hlt := Si.v_lt hB
  have hok : siOk q.v q.w = true := by
    simp only [siOk, siOf_of hB, hB, Bool.and_true, Bool.and_eq_true, decide_eq_true_eq]; exact hlt
  exact ⟨by simp only [M.sgE, ht2, hat, hat2, hok, if_true], by simp only [M.sgV, ht2, hat, hat2, hok, Bool.and_self, if_true]; exact siOf_of hB⟩
end Go.Proofs.Ytdlloccodmdnnaa

/- Law 08: ObjsBack: the walk. -/
namespace Go.Proofs.Ytdlloccodmdnnaa
open Go.D
set_option linter.all false
set_option maxRecDepth 100000
set_option maxHeartbeats 8000000

noncomputable def TBk : Tab := addT 28 awake8G (addT 29 newM (addT 38 fill2G (addT 26 dumpG (addT 39 tsetG (addT 33 tcG (addT 40 rgsetG (addT 41 rggetG (addT 42 qsetG (addT 34 qgetG (addT 43 ssetG (addT 35 sgetG (addT 44 etsetG (addT 36 etgetG (addT 45 rtsetG (addT 37 rtgetG (noT))))))))))))))))
theorem TBk_snd : TBk.Snd Try.prog := addT_snd ok28 awake8_snd (addT_snd ok29 new_snd (addT_snd ok38 fill2_snd (addT_snd ok26 mdump_snd (addT_snd ok39 tset_snd' (addT_snd ok33 tc_snd (addT_snd ok40 rgset_snd (addT_snd ok41 rgget_snd (addT_snd ok42 qset_snd (addT_snd ok34 qget_snd (addT_snd ok43 sset_snd (addT_snd ok35 sget_snd (addT_snd ok44 etset_snd (addT_snd ok36 etget_snd (addT_snd ok45 rtset_snd (addT_snd ok37 rtget_snd ((noT_snd _)))))))))))))))))
theorem back_end {h : List Blk} {K : V → List Blk → Prop} {o : Oo} {f wd : Int} {m : M} (hc : clean h.length h = true) (hl : m.w.length = 4096) (H1 : ∀ i : Nat, i < 4096 → m.at i ≠ 9 → f = 0 ∧ o.ad ≤ i ∧ (i : Int) < o.ad + wd) (hw : 0 ≤ wd ∧ wd ≤ 64) (hS : K (.s (.b true)) h) :
    swp TBk.Γ h.length (finP df11.res (Cut h.length K)) [.c (DC.after 9 df11.body)] ⟨setT [(1, .s (.p (.l 0) 0)), (3, .s (.b true)), (4, .s (.p (.g h.length) 0)), (5, .s (.i .i64 0)), (6, .s (.i .i64 f)), (7, .s (.i .i64 wd)), (8, .s (.b true))] (List.replicate 261 (.s .u)), [⟨.rw, o.cl, 47⟩], memH h m⟩ := by
  have k1 := oo_known o
  have k3 := oo_noL o
  have k5 := Oo.cl_len o
  have g2 : o.cl[1]? = some (.i .i64 o.ad) := rfl
  have hx : m.has 0 4096 = true := M.has_of (by omega)
  have w1 : m.w.take 4096 = m.w := by rw [← hl, List.take_length]
  simp only [DC.after, df11]
  refine run_sound (Tab.ok_Γ _) 400 _ _ _ _ ?_
  simp (config := { maxSteps := 10000000 }) only [run_drx, run_xd, run_xq, run_xg, run_xb, EV1, EV2, EV3, EV4, EV5, EV6, addT, istep, lenR_sl, lenR_ns, lenR_es, pickR, putD, bin1R, un1R, slcR, bnd, capsOf, fillP, S_plain, V_plain, V.cells, S_known, V_known, C.v, blk, setL, setH, eqS, eq1, cmpS, cmp1, isNil, popTo, killT, setT, leT, V.below, C.below, S_below, R.below, V.val, C.val, S_val, R.val, R.takes, vals, shows, List.any_cons, List.any_nil, unnamed, V.kill, V.names, C.names, S_names, R.names, List.set, List.replicate, ↓q_cond_t, ↓q_cond_f, if_true, if_false, reduceCtorEq, rvals, rvC, result, C_known, V.noL, C.noL, S_noL, R.noL, Option.map, true_and, and_true, ge_iff_le, gt_iff_lt, implies_true, q_ite_t, q_ite_f, beq_iff_eq, bne_iff_ne, q_ne, Nat.reduceAdd, Nat.reducePow, Int.reducePow, Nat.reduceMul, Nat.reduceSub, Nat.reduceLeDiff, Nat.reduceLT, Nat.reduceEqDiff, Int.reduceNeg, Int.reduceLT, Int.reduceLE, Int.reduceEq, Int.reduceNe, Int.reduceAdd, Int.reduceSub, Int.reduceMul, Int.reduceToNat, Int.reduceBEq, Int.reduceBNe, TBk, memF_new, dumpG, dumpM, hx, w1, List.drop_zero, setT, memH_len]
  intro c _
  refine loop_rule (α := Nat) [2, 23, 233, 234, 235, 236, 237, 238, 239, 240, 241, 242, 243, 244, 245, 246, 247, 248, 249, 250, 251, 252, 253, 254, 255, 256, 257, 258, 259] (fun q => [(23, .s (.i .i64 q))]) (fun _ => [⟨.rw, o.cl, 47⟩]) (fun _ => memH h m ++ [⟨.rw, wc m.w, c⟩]) (fun q => q ≤ 4096) (fun q => 4096 - q) 0 (by omega) ?_ ?_
  · refine Wk.same rfl rfl ?_
    simp (config := { maxSteps := 10000000 }) only [run_drx, run_xd, run_xq, run_xg, run_xb, EV1, EV2, EV3, EV4, EV5, EV6, addT, istep, lenR_sl, lenR_ns, lenR_es, pickR, putD, bin1R, un1R, slcR, bnd, capsOf, fillP, S_plain, V_plain, V.cells, S_known, V_known, C.v, blk, setL, setH, eqS, eq1, cmpS, cmp1, isNil, popTo, killT, setT, leT, V.below, C.below, S_below, R.below, V.val, C.val, S_val, R.val, R.takes, vals, shows, List.any_cons, List.any_nil, unnamed, V.kill, V.names, C.names, S_names, R.names, List.set, List.replicate, ↓q_cond_t, ↓q_cond_f, if_true, if_false, reduceCtorEq, rvals, rvC, result, C_known, V.noL, C.noL, S_noL, R.noL, Option.map, true_and, and_true, ge_iff_le, gt_iff_lt, implies_true, q_ite_t, q_ite_f, beq_iff_eq, bne_iff_ne, q_ne, Nat.reduceAdd, Nat.reducePow, Int.reducePow, Nat.reduceMul, Nat.reduceSub, Nat.reduceLeDiff, Nat.reduceLT, Nat.reduceEqDiff, Int.reduceNeg, Int.reduceLT, Int.reduceLE, Int.reduceEq, Int.reduceNe, Int.reduceAdd, Int.reduceSub, Int.reduceMul, Int.reduceToNat, Int.reduceBEq, Int.reduceBNe, Int.natCast_zero]
  · rintro X q hq IH
    have hb : ∀ Y, (memH h m ++ (⟨.rw, wc m.w, c⟩ :: Y))[h.length + 2]? = some ⟨.rw, wc m.w, c⟩ := fun Y => by rw [mg0]; rfl
    rcases Nat.lt_or_ge q 4096 with h1 | h1
    · have d1 : ((q : Int) < 4096) := by omega
      have d2 : (0 : Int) ≤ q := by omega
      have d3 : ¬ ((q : Int) < 0) := by omega
      have d4 : IntKind.i64.wrap ((q : Int) + 1) = ((q + 1 : Nat) : Int) := by rw [wrap64 (by omega) (by omega)]; omega
      have g : (wc m.w)[q]? = some (.i .u64 (m.at q)) := by rw [wc_get (by omega), M.at, Int.toNat_natCast]
      by_cases h9 : m.at q = 9
      · refine run_sound (Tab.ok_Γ _) 200 _ _ _ _ ?_
        simp (config := { maxSteps := 10000000 }) only [run_drx, run_xd, run_xq, run_xg, run_xb, EV1, EV2, EV3, EV4, EV5, EV6, addT, istep, lenR_sl, lenR_ns, lenR_es, pickR, putD, bin1R, un1R, slcR, bnd, capsOf, fillP, S_plain, V_plain, V.cells, S_known, V_known, C.v, blk, setL, setH, eqS, eq1, cmpS, cmp1, isNil, popTo, killT, setT, leT, V.below, C.below, S_below, R.below, V.val, C.val, S_val, R.val, R.takes, vals, shows, List.any_cons, List.any_nil, unnamed, V.kill, V.names, C.names, S_names, R.names, List.set, List.replicate, ↓q_cond_t, ↓q_cond_f, if_true, if_false, reduceCtorEq, rvals, rvC, result, C_known, V.noL, C.noL, S_noL, R.noL, Option.map, true_and, and_true, ge_iff_le, gt_iff_lt, implies_true, q_ite_t, q_ite_f, beq_iff_eq, bne_iff_ne, q_ne, Nat.reduceAdd, Nat.reducePow, Int.reducePow, Nat.reduceMul, Nat.reduceSub, Nat.reduceLeDiff, Nat.reduceLT, Nat.reduceEqDiff, Int.reduceNeg, Int.reduceLT, Int.reduceLE, Int.reduceEq, Int.reduceNe, Int.reduceAdd, Int.reduceSub, Int.reduceMul, Int.reduceToNat, Int.reduceBEq, Int.reduceBNe, TBk, d1, d2, d3, d4, hb, g, h9, k1, k3, k5, g2, Int.toNat_natCast]
        exact IH (q + 1) _ (by omega) (by omega) (Wk.same rfl rfl (by simp (config := { maxSteps := 10000000 }) only [run_drx, run_xd, run_xq, run_xg, run_xb, EV1, EV2, EV3, EV4, EV5, EV6, addT, istep, lenR_sl, lenR_ns, lenR_es, pickR, putD, bin1R, un1R, slcR, bnd, capsOf, fillP, S_plain, V_plain, V.cells, S_known, V_known, C.v, blk, setL, setH, eqS, eq1, cmpS, cmp1, isNil, popTo, killT, setT, leT, V.below, C.below, S_below, R.below, V.val, C.val, S_val, R.val, R.takes, vals, shows, List.any_cons, List.any_nil, unnamed, V.kill, V.names, C.names, S_names, R.names, List.set, List.replicate, ↓q_cond_t, ↓q_cond_f, if_true, if_false, reduceCtorEq, rvals, rvC, result, C_known, V.noL, C.noL, S_noL, R.noL, Option.map, true_and, and_true, ge_iff_le, gt_iff_lt, implies_true, q_ite_t, q_ite_f, beq_iff_eq, bne_iff_ne, q_ne, Nat.reduceAdd, Nat.reducePow, Int.reducePow, Nat.reduceMul, Nat.reduceSub, Nat.reduceLeDiff, Nat.reduceLT, Nat.reduceEqDiff, Int.reduceNeg, Int.reduceLT, Int.reduceLE, Int.reduceEq, Int.reduceNe, Int.reduceAdd, Int.reduceSub, Int.reduceMul, Int.reduceToNat, Int.reduceBEq, Int.reduceBNe]))
      · obtain ⟨f0, a1, a2⟩ := H1 q h1 h9
        have a3 : ¬ ((q : Int) < o.ad) := by omega
        have a4 : IntKind.i64.wrap (o.ad + wd) = o.ad + wd := wrap64 (by omega) (by omega)
        have a5 : ¬ (o.ad + wd ≤ (q : Int)) := by omega
        subst f0
        refine run_sound (Tab.ok_Γ _) 200 _ _ _ _ ?_
        simp (config := { maxSteps := 10000000 }) only [run_drx, run_xd, run_xq, run_xg, run_xb, EV1, EV2, EV3, EV4, EV5, EV6, addT, istep, lenR_sl, lenR_ns, lenR_es, pickR, putD, bin1R, un1R, slcR, bnd, capsOf, fillP, S_plain, V_plain, V.cells, S_known, V_known, C.v, blk, setL, setH, eqS, eq1, cmpS, cmp1, isNil, popTo, killT, setT, leT, V.below, C.below, S_below, R.below, V.val, C.val, S_val, R.val, R.takes, vals, shows, List.any_cons, List.any_nil, unnamed, V.kill, V.names, C.names, S_names, R.names, List.set, List.replicate, ↓q_cond_t, ↓q_cond_f, if_true, if_false, reduceCtorEq, rvals, rvC, result, C_known, V.noL, C.noL, S_noL, R.noL, Option.map, true_and, and_true, ge_iff_le, gt_iff_lt, implies_true, q_ite_t, q_ite_f, beq_iff_eq, bne_iff_ne, q_ne, Nat.reduceAdd, Nat.reducePow, Int.reducePow, Nat.reduceMul, Nat.reduceSub, Nat.reduceLeDiff, Nat.reduceLT, Nat.reduceEqDiff, Int.reduceNeg, Int.reduceLT, Int.reduceLE, Int.reduceEq, Int.reduceNe, Int.reduceAdd, Int.reduceSub, Int.reduceMul, Int.reduceToNat, Int.reduceBEq, Int.reduceBNe, TBk, d1, d2, d3, d4, hb, g, h9, k1, k3, k5, g2, a3, a4, a5, Int.toNat_natCast]
        exact IH (q + 1) _ (by omega) (by omega) (Wk.same rfl rfl (by simp (config := { maxSteps := 10000000 }) only [run_drx, run_xd, run_xq, run_xg, run_xb, EV1, EV2, EV3, EV4, EV5, EV6, addT, istep, lenR_sl, lenR_ns, lenR_es, pickR, putD, bin1R, un1R, slcR, bnd, capsOf, fillP, S_plain, V_plain, V.cells, S_known, V_known, C.v, blk, setL, setH, eqS, eq1, cmpS, cmp1, isNil, popTo, killT, setT, leT, V.below, C.below, S_below, R.below, V.val, C.val, S_val, R.val, R.takes, vals, shows, List.any_cons, List.any_nil, unnamed, V.kill, V.names, C.names, S_names, R.names, List.set, List.replicate, ↓q_cond_t, ↓q_cond_f, if_true, if_false, reduceCtorEq, rvals, rvC, result, C_known, V.noL, C.noL, S_noL, R.noL, Option.map, true_and, and_true, ge_iff_le, gt_iff_lt, implies_true, q_ite_t, q_ite_f, beq_iff_eq, bne_iff_ne, q_ne, Nat.reduceAdd, Nat.reducePow, Int.reducePow, Nat.reduceMul, Nat.reduceSub, Nat.reduceLeDiff, Nat.reduceLT, Nat.reduceEqDiff, Int.reduceNeg, Int.reduceLT, Int.reduceLE, Int.reduceEq, Int.reduceNe, Int.reduceAdd, Int.reduceSub, Int.reduceMul, Int.reduceToNat, Int.reduceBEq, Int.reduceBNe]))
    · have : q = 4096 := by omega
      subst this
      clear IH
      refine run_sound (Tab.ok_Γ _) 200 _ _ _ _ ?_
      simp (config := { maxSteps := 10000000 }) only [run_drx, run_xd, run_xq, run_xg, run_xb, EV1, EV2, EV3, EV4, EV5, EV6, addT, istep, lenR_sl, lenR_ns, lenR_es, pickR, putD, bin1R, un1R, slcR, bnd, capsOf, fillP, S_plain, V_plain, V.cells, S_known, V_known, C.v, blk, setL, setH, eqS, eq1, cmpS, cmp1, isNil, popTo, killT, setT, leT, V.below, C.below, S_below, R.below, V.val, C.val, S_val, R.val, R.takes, vals, shows, List.any_cons, List.any_nil, unnamed, V.kill, V.names, C.names, S_names, R.names, List.set, List.replicate, ↓q_cond_t, ↓q_cond_f, if_true, if_false, reduceCtorEq, rvals, rvC, result, C_known, V.noL, C.noL, S_noL, R.noL, Option.map, true_and, and_true, ge_iff_le, gt_iff_lt, implies_true, q_ite_t, q_ite_f, beq_iff_eq, bne_iff_ne, q_ne, Nat.reduceAdd, Nat.reducePow, Int.reducePow, Nat.reduceMul, Nat.reduceSub, Nat.reduceLeDiff, Nat.reduceLT, Nat.reduceEqDiff, Int.reduceNeg, Int.reduceLT, Int.reduceLE, Int.reduceEq, Int.reduceNe, Int.reduceAdd, Int.reduceSub, Int.reduceMul, Int.reduceToNat, Int.reduceBEq, Int.reduceBNe, TBk, Int.lt_irrefl]
      show Cut _ _ _ (h ++ [_, _] ++ [_])
      rw [List.append_assoc]
      exact cut_app (Nat.le_refl _) hc rfl hS
end Go.Proofs.Ytdlloccodmdnnaa

/- Law 08: ObjsBack: the walk's cases. -/
namespace Go.Proofs.Ytdlloccodmdnnaa
open Go.D
set_option linter.all false
set_option maxRecDepth 100000
set_option maxHeartbeats 8000000

theorem thE_ne {m : M} {a : Int} {t : Th} (h : m.thE a t ≠ 0) : m.thX a t = m := by
  unfold M.thE at h; unfold M.thX
  cases e : otB m a 64
  · rfl
  · cases f : t.B
    · rfl
    · rw [e, f] at h; exact absurd rfl h
theorem rgE_ne {m : M} {a i w : Int} (h : m.rgE a i ≠ 0) : m.rsX a i w = m := by
  unfold M.rgE at h; unfold M.rsX
  rw [show (plE m a 64 i 15 == 0) = false by simpa using h]; rfl
theorem qsE_ne {m : M} {a : Int} {q : Qu} (h : m.qsE a q ≠ 0) : m.qsX a q = m := by
  unfold M.qsE at h; unfold M.qsX
  cases e : otB m a 4
  · rfl
  · cases f : q.B
    · rfl
    · rw [e, f] at h; exact absurd rfl h
theorem ssE_ne {m : M} {a : Int} {q : Si} (h : m.ssE a q ≠ 0) : m.ssX a q = m := by
  unfold M.ssE at h; unfold M.ssX
  cases e : otB m a 8
  · rfl
  · cases f : q.B
    · rfl
    · rw [e, f] at h; exact absurd rfl h
theorem esE_ne {m : M} {a i : Int} {e : En} (h : m.esE a i e ≠ 0) : m.esX a i e = m := by
  unfold M.esE at h; unfold M.esX
  cases p : (plE m a 8 i 7 == 0)
  · rfl
  · cases f : e.may
    · rfl
    · rw [p, f] at h; exact absurd rfl h
theorem tsE_ne {m : M} {a i n : Int} (h : m.tsE a i n ≠ 0) : m.tsX a i n = m := by
  unfold M.tsE at h; unfold M.tsX
  cases p : (plE m a 8 i 7 == 0)
  · rfl
  · cases f : rootB n
    · rfl
    · rw [p, f] at h; exact absurd rfl h
theorem esX_get {m : M} {a i : Int} {e : En} (h : m.esE a i e = 0) : (m.esX a i e).etE a i = 0 ∧ (m.esX a i e).etV a i = e := by
  have p : (plE m a 8 i 7 == 0) = true := by
    cases p : (plE m a 8 i 7 == 0)
    · unfold M.esE at h
      rw [p, cond_false] at h
      rw [h] at p; cases p
    · rfl
  have f : e.may = true := by
    cases f : e.may
    · unfold M.esE at h
      rw [p, f] at h; cases h
    · rfl
  have b := pl_in p
  have hlen := esX_len m a i e
  have hp : plE (m.esX a i e) a 8 i 7 = plE m a 8 i 7 := by simp only [plE, otB, hlen]
  have hu := (En.w_uu f).1
  have hat : (m.esX a i e).at (a + i) = e.w := by
    rw [M.esX, p, f, Bool.and_self, cond_true, M.at_tick, M.at_put, if_pos (by omega), uw_of hu]
  have h1 := En.backB f
  exact ⟨by rw [M.etE, hp, p, hat, h1]; rfl, by rw [M.etV, hp, p, hat, h1]; exact En.back f⟩
theorem tsX_get {m : M} {a i n : Int} (h : m.tsE a i n = 0) : (m.tsX a i n).rtE a i = 0 ∧ (m.tsX a i n).rtV a i = n := by
  have p : (plE m a 8 i 7 == 0) = true := by
    cases p : (plE m a 8 i 7 == 0)
    · unfold M.tsE at h
      rw [p, cond_false] at h
      rw [h] at p; cases p
    · rfl
  have f : rootB n = true := by
    cases f : rootB n
    · unfold M.tsE at h
      rw [p, f] at h; cases h
    · rfl
  have b := pl_in p
  have hlen := M.tsX_len m a i n
  have hp : plE (m.tsX a i n) a 8 i 7 = plE m a 8 i 7 := by simp only [plE, otB, hlen]
  have hr := rootB_iff.1 f
  have hu : u64 n := by simp only [u64]; omega
  have hat : (m.tsX a i n).at (a + i) = n := by
    rw [M.tsX, p, f, Bool.and_self, cond_true, M.at_tick, M.at_put, if_pos (by omega), uw_of hu]
  have hk : rtOk n = true := by
    have : n ≤ 65535 := by omega
    simp only [rtOk, f, this, decide_true, Bool.and_self]
  exact ⟨by rw [M.rtE, hp, p, hat, hk]; rfl, by rw [M.rtV, hp, p, hat, hk]; rfl⟩
theorem wds_le (n : Int) : 0 ≤ wds n ∧ wds n ≤ 64 := by unfold wds; split; decide; split; decide; split <;> decide
/-- A memory full of nines. -/
theorem nines : (M.zero 12).fillE 0 4096 = 0 ∧ ((M.zero 12).fillX 0 4096 9).w.length = 4096 ∧ ∀ i : Nat, i < 4096 → ((M.zero 12).fillX 0 4096 9).at i = 9 := by
  have l0 : (M.zero 12).w.length = 4096 := M.zero_len 12
  have h : (M.zero 12).has 0 4096 = true := M.has_of (by omega)
  refine ⟨by simp only [M.fillE, h, if_true], by simp only [M.fillX, h, if_true, M.tick_len, M.fill_len, l0], fun i hi => ?_⟩
  simp only [M.fillX, h, if_true]
  rw [M.at_tick, M.fill_at _ _ _ _ _ (by rw [l0]; decide), if_pos (by omega)]
  rfl
/-- What is not nine lies in the object. -/
theorem back_H {m : M} {o : Oo} {f : Int} {m2 : M} (h9 : ∀ i : Nat, i < 4096 → m.at i = 9) (hw : m2.w = (m.oX o).w) (hf : f ≠ 0 → m.oX o = m) (h7 : o.wh ≠ 7) : ∀ i : Nat, i < 4096 → m2.at i ≠ 9 → f = 0 ∧ o.ad ≤ i ∧ (i : Int) < o.ad + wds o.wh := by
  intro i hi hn
  rw [at_w hw] at hn
  have f0 : f = 0 := by
    by_cases c : f = 0
    · exact c
    · rw [hf c] at hn; exact absurd (h9 i hi) hn
  refine ⟨f0, ?_⟩
  by_cases c : o.ad ≤ i ∧ (i : Int) < o.ad + wds o.wh
  · exact c
  · rw [oX_out m o i h7 c] at hn; exact absurd (h9 i hi) hn
end Go.Proofs.Ytdlloccodmdnnaa

