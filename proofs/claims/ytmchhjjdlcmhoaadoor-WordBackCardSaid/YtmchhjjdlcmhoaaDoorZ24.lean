/- Law 01: WordBack. -/
import Derived.Test.YtmchhjjdlcmhoaaDoorZ12
import Derived.Test.YtmchhjjdlcmhoaaDoorZ23
/- Law 01: WordBack. -/
namespace Go.Proofs.YtmchhjjdlcmhoaaDoor
open Go.D
set_option linter.all false
set_option maxRecDepth 100000
set_option maxHeartbeats 8000000

theorem fd_len (F : List Fd) : (arr Fd.c F).length = F.length * 2 := arr_length Fd.c_len F
theorem pairs_take : ∀ (L M : List Int) (i : Nat), i < L.length → i < M.length → (pairs L M).take (i + 1) = (pairs L M).take i ++ [⟨nth 0 L i, nth 0 M i⟩]
  | [], _, _, h, _ => by simp at h
  | _, [], _, _, h => by simp at h
  | l :: L, m :: M, 0, _, _ => by simp [pairs, nth]
  | l :: L, m :: M, i + 1, h, h' => by
    have := pairs_take L M i (by simpa using h) (by simpa using h')
    simp only [pairs, List.take_succ_cons, this, List.cons_append]
    rfl
theorem pairs_v : ∀ (L M : List Int) (P : Int → Prop), (∀ m, m ∈ M → P m) → ∀ f, f ∈ pairs L M → P f.v
  | [], _, _, _, f, hf => by simp [pairs] at hf
  | _ :: _, [], _, _, f, hf => by simp [pairs] at hf
  | l :: L, m :: M, P, h, f, hf => by
    simp only [pairs, List.mem_cons] at hf
    rcases hf with rfl | hf
    · exact h m List.mem_cons_self
    · exact pairs_v L M P (fun x hx => h x (List.mem_cons_of_mem _ hx)) f hf
/-- A list that the function itself makes, by its length. -/
def wbT (c : Nat) : Nat → V
  | 0 => .s .ns
  | i + 1 => .s (.sl (.l 0) 0 (i + 1) c)
def wbL (f : Nat → List S) (c : Nat) : Nat → List Blk
  | 0 => []
  | i + 1 => [⟨.rw, f (i + 1), c⟩]
def wbS (s s2 : S) (w : Int) : List V := setT [(0, .s s), (1, .s (.i .u64 w)), (2, .s s2), (7, .s (.b true))] (List.replicate 161 (.s .u))

theorem wb_end {h : List Blk} {K : V → List Blk → Prop} {s s2 : S} {F : List Fd} {L : List Int} {w : Nat} (hc : clean h.length h = true) (Hs : IsArr Fd.c h s F) (hw : w < 18446744073709551616) (Hs2 : IsArr Ic h s2 L) (c1 : ¬ (2147483647 : Int) < L.length) (hK : K (.s (.b true)) h) :
    swp TP.Γ h.length (finP df7.res (Cut h.length K)) [.c (DC.after 5 df7.body)] ⟨wbS s s2 w, [], h⟩ := by
  have hFin : Cut h.length K (.s (.b true)) h := cut_all (Nat.le_refl _) hc rfl hK
  have hwu := u64_of hw
  have hlen2 := fun ls h' => Hs2.sl.len (ls := ls) (h := h')
  have hkn2 := Hs2.sl.known
  have hnl2 := Hs2.sl.noL
  have hnm2 := Hs2.sl.names
  have hbl := Hs.sl.below
  have hbl2 := Hs2.sl.below
  have hld2 := Hs2.sl.lend
  have hp20 : preOf Ic h s2 = some L := preOf_eq Hs2.pre
  have hL64 : L.length ≤ 9223372036854775807 := by omega
  have hbn : ∀ a b : Nat, ¬ (a + b < a) := fun a b => by omega
  have hpk2 := Hs2.sl.pick
  simp only [wbS]
  simp only [DC.after, df7]
  cases hb : unpackB w L 0 with
  | true =>
    obtain ⟨q1, q2⟩ := pack_unpack L w 0 hb
    simp only [Int.natCast_zero, Nat.pow_zero, Nat.div_one, Nat.one_mul] at q1 q2
    obtain ⟨M, hM⟩ : ∃ M, unpackV w L 0 = M := ⟨_, rfl⟩
    have hMl : M.length = L.length := by rw [← hM, unpackV_len]
    have hMu : ∀ v, v ∈ M → u64 v := by rw [← hM]; exact unpackV_u w hw L 0
    rw [hM] at q1 q2
    cases M with
    | nil =>
      have hL0 : L = [] := List.eq_nil_of_length_eq_zero hMl.symm
      subst hL0
      simp only [pairs, packV] at q1 q2
      have hw0 : w = 0 := by omega
      subst hw0
      have hp3 : preOf Fd.c h .ns = some [] := preOf_eq (.inl ⟨.inl rfl, rfl⟩)
      have hu0 : u64 0 := by simp only [u64]; omega
      have hb0 : unpackB 0 [] 0 = true := by decide
      have hV0 : unpackV 0 [] 0 = [] := rfl
      simp only [List.length_nil] at hlen2
      refine run_sound (Tab.ok_Γ _) 300 _ _ _ _ ?_
      simp (config := { maxSteps := 10000000 }) only [run_drx, run_xd, run_xq, run_xg, run_xb, EV1, EV2, EV3, EV4, EV5, EV6, addT, istep, lenR_sl, lenR_ns, lenR_es, pickR, putD, bin1R, un1R, slcR, bnd, capsOf, fillP, S_plain, V_plain, V.cells, S_known, V_known, C.v, blk, setL, setH, eqS, eq1, cmpS, cmp1, isNil, popTo, killT, setT, leT, V.below, C.below, S_below, R.below, V.val, C.val, S_val, R.val, R.takes, vals, shows, List.any_cons, List.any_nil, unnamed, V.kill, V.names, C.names, S_names, R.names, List.set, List.replicate, ↓q_cond_t, ↓q_cond_f, if_true, if_false, reduceCtorEq, rvals, rvC, result, C_known, V.noL, C.noL, S_noL, R.noL, Option.map, true_and, and_true, ge_iff_le, gt_iff_lt, implies_true, q_ite_t, q_ite_f, beq_iff_eq, bne_iff_ne, q_ne, Nat.reduceAdd, Nat.reducePow, Int.reducePow, Nat.reduceMul, Nat.reduceSub, Nat.reduceLeDiff, Nat.reduceLT, Nat.reduceEqDiff, Int.reduceNeg, Int.reduceLT, Int.reduceLE, Int.reduceEq, Int.reduceNe, Int.reduceAdd, Int.reduceSub, Int.reduceMul, Int.reduceToNat, Int.reduceBEq, Int.reduceBNe, TP, unpack4G, R.lend, R.unlend, S_ren, C.ren, V.ren, Blk.ren, take_app, drop_app, Nat.not_lt_zero, Nat.lt_irrefl, Nat.add_sub_cancel_left, Nat.not_lt, Nat.le_add_right, hu0, hL64, hp20, hb0, hV0, wordsR, pairV, ↓hkn2, ↓hnl2, hld2, hbn, setT, Int.natCast_zero]
      refine loop_rule (α := Unit) [] (fun _ => []) (fun _ => []) (fun _ => h) (fun _ => True) (fun _ => 0) () trivial .refl ?_
      rintro X2 _ _ _
      refine run_sound (Tab.ok_Γ _) 300 _ _ _ _ ?_
      simp (config := { maxSteps := 10000000 }) only [run_drx, run_xd, run_xq, run_xg, run_xb, EV1, EV2, EV3, EV4, EV5, EV6, addT, istep, lenR_sl, lenR_ns, lenR_es, pickR, putD, bin1R, un1R, slcR, bnd, capsOf, fillP, S_plain, V_plain, V.cells, S_known, V_known, C.v, blk, setL, setH, eqS, eq1, cmpS, cmp1, isNil, popTo, killT, setT, leT, V.below, C.below, S_below, R.below, V.val, C.val, S_val, R.val, R.takes, vals, shows, List.any_cons, List.any_nil, unnamed, V.kill, V.names, C.names, S_names, R.names, List.set, List.replicate, ↓q_cond_t, ↓q_cond_f, if_true, if_false, reduceCtorEq, rvals, rvC, result, C_known, V.noL, C.noL, S_noL, R.noL, Option.map, true_and, and_true, ge_iff_le, gt_iff_lt, implies_true, q_ite_t, q_ite_f, beq_iff_eq, bne_iff_ne, q_ne, Nat.reduceAdd, Nat.reducePow, Int.reducePow, Nat.reduceMul, Nat.reduceSub, Nat.reduceLeDiff, Nat.reduceLT, Nat.reduceEqDiff, Int.reduceNeg, Int.reduceLT, Int.reduceLE, Int.reduceEq, Int.reduceNe, Int.reduceAdd, Int.reduceSub, Int.reduceMul, Int.reduceToNat, Int.reduceBEq, Int.reduceBNe, Int.lt_irrefl, TP, pack4G, hp3, packB, packV, ↓hlen2]
      exact ⟨(fun f hf => by cases hf), hFin⟩
    | cons y M =>
      simp only [List.length_cons] at hMl
      have hc64 : M.length + 1 ≤ 9223372036854775807 := by omega
      refine run_sound (Tab.ok_Γ _) 300 _ _ _ _ ?_
      simp (config := { maxSteps := 10000000 }) only [run_drx, run_xd, run_xq, run_xg, run_xb, EV1, EV2, EV3, EV4, EV5, EV6, addT, istep, lenR_sl, lenR_ns, lenR_es, pickR, putD, bin1R, un1R, slcR, bnd, capsOf, fillP, S_plain, V_plain, V.cells, S_known, V_known, C.v, blk, setL, setH, eqS, eq1, cmpS, cmp1, isNil, popTo, killT, setT, leT, V.below, C.below, S_below, R.below, V.val, C.val, S_val, R.val, R.takes, vals, shows, List.any_cons, List.any_nil, unnamed, V.kill, V.names, C.names, S_names, R.names, List.set, List.replicate, ↓q_cond_t, ↓q_cond_f, if_true, if_false, reduceCtorEq, rvals, rvC, result, C_known, V.noL, C.noL, S_noL, R.noL, Option.map, true_and, and_true, ge_iff_le, gt_iff_lt, implies_true, q_ite_t, q_ite_f, beq_iff_eq, bne_iff_ne, q_ne, Nat.reduceAdd, Nat.reducePow, Int.reducePow, Nat.reduceMul, Nat.reduceSub, Nat.reduceLeDiff, Nat.reduceLT, Nat.reduceEqDiff, Int.reduceNeg, Int.reduceLT, Int.reduceLE, Int.reduceEq, Int.reduceNe, Int.reduceAdd, Int.reduceSub, Int.reduceMul, Int.reduceToNat, Int.reduceBEq, Int.reduceBNe, TP, unpack4G, R.lend, R.unlend, S_ren, C.ren, V.ren, Blk.ren, take_app, drop_app, Nat.not_lt_zero, Nat.lt_irrefl, Nat.add_sub_cancel_left, Nat.not_lt, Nat.le_add_right, hwu, hL64, hp20, hb, hM, wordsR, pairV, ↓hkn2, ↓hnl2, hld2, hbn, setT]
      intro c hcM
      obtain ⟨N, hN⟩ : ∃ N, N = y :: M := ⟨_, rfl⟩
      have hNl : N.length = M.length + 1 := by rw [hN]; rfl
      have h9 : (h ++ [⟨.rw, arr Uc N, c⟩] : List Blk).length = h.length + 1 := by simp
      have hc9 : clean (h.length + 1) (h ++ [⟨.rw, arr Uc N, c⟩]) = true := by
        have e1 : vals (h.length + 1) 0 (arr Uc N) = true := uc_all _ (fun _ => rfl) _
        simp only [clean, List.all_append, List.all_cons, List.all_nil, Bool.and_true, Bool.and_eq_true, e1, and_true]
        simp only [clean, List.all_eq_true] at hc ⊢
        exact fun B hB => vals_mono (by omega) (Nat.le_refl _) (hc B hB)
      rw [← hN] at q1 q2 hMu ⊢
      have hnq : h.length ≤ (h ++ [⟨.rw, arr Uc N, c⟩] : List Blk).length := by rw [h9]; omega
      have hcq : clean (h ++ [⟨.rw, arr Uc N, c⟩] : List Blk).length (h ++ [⟨.rw, arr Uc N, c⟩]) = true := by rw [h9]; exact hc9
      have hpk := Hs.sl.pick
      have hvl : ∀ m, s.val (h.length + 1) m = true := fun m => Hs.sl.val (by omega)
      have hvl2 : ∀ m, s2.val (h.length + 1) m = true := fun m => Hs2.sl.val (by omega)
      have hnm := Hs.sl.names
      have fB : ∀ k M, (arr Fd.c M).all (S.below k) = true := fun k => fd_all _ fun _ _ => rfl
      have fK : ∀ M, known (arr Fd.c M) = true := fd_all _ fun _ _ => rfl
      have fN : ∀ k M, ((arr Fd.c M).all fun s => !S.names k s) = true := fun k => fd_all _ fun _ _ => rfl
      have fV : ∀ n m M, vals n m (arr Fd.c M) = true := fun n m => fd_all _ fun _ _ => rfl
      refine loop_rule (α := Nat × Nat) [18, 19, 115, 116, 117, 118, 119, 120, 121, 122, 123, 124, 125, 126, 127, 128, 129, 130, 131, 132, 133, 134, 135, 136, 137, 138] (fun y => [(18, wbT y.2 y.1), (19, .s (.i .i64 (y.1 : Int)))]) (fun y => wbL (fun i => arr Fd.c ((pairs L N).take i)) (y.2 * 2) y.1) (fun _ => h ++ [⟨.rw, arr Uc N, c⟩])
        (fun y => y.1 ≤ M.length + 1 ∧ y.1 ≤ y.2) (fun y => M.length + 1 - y.1) (0, 0) ⟨Nat.zero_le _, Nat.le_refl _⟩ (Wk.same rfl rfl ?_) ?_
      · simp (config := { maxSteps := 10000000 }) only [run_drx, run_xd, run_xq, run_xg, run_xb, EV1, EV2, EV3, EV4, EV5, EV6, addT, istep, lenR_sl, lenR_ns, lenR_es, pickR, putD, bin1R, un1R, slcR, bnd, capsOf, fillP, S_plain, V_plain, V.cells, S_known, V_known, C.v, blk, setL, setH, eqS, eq1, cmpS, cmp1, isNil, popTo, killT, setT, leT, V.below, C.below, S_below, R.below, V.val, C.val, S_val, R.val, R.takes, vals, shows, List.any_cons, List.any_nil, unnamed, V.kill, V.names, C.names, S_names, R.names, List.set, List.replicate, ↓q_cond_t, ↓q_cond_f, if_true, if_false, reduceCtorEq, rvals, rvC, result, C_known, V.noL, C.noL, S_noL, R.noL, Option.map, true_and, and_true, ge_iff_le, gt_iff_lt, implies_true, q_ite_t, q_ite_f, beq_iff_eq, bne_iff_ne, q_ne, Nat.reduceAdd, Nat.reducePow, Int.reducePow, Nat.reduceMul, Nat.reduceSub, Nat.reduceLeDiff, Nat.reduceLT, Nat.reduceEqDiff, Int.reduceNeg, Int.reduceLT, Int.reduceLE, Int.reduceEq, Int.reduceNe, Int.reduceAdd, Int.reduceSub, Int.reduceMul, Int.reduceToNat, Int.reduceBEq, Int.reduceBNe, Int.natCast_zero, wbT]
      · rintro X ⟨i, c1'⟩ ⟨hi, hic⟩ IH
        simp only at hi hic ⊢
        rcases Nat.lt_or_ge i (M.length + 1) with hlt | hge
        · have I := idx hlt hc64
          obtain ⟨j, cc, st, room, hse, hj, hd⟩ := Hs2.at (i := i) (by omega)
          have hjl : j < h.length := (List.getElem?_eq_some_iff.1 hj).1
          have hj9 : (h ++ [⟨.rw, arr Uc N, c⟩] : List Blk)[j]? = some ⟨st, arr Ic L, room⟩ := by rw [List.getElem?_append_left hjl]; exact hj
          have E1 : (arr Ic L)[i]? = some (.i .i64 (nth 0 L i)) := by
            have := arr_get0 (f := Ic) Ic_len (l := L) (i := i) (by omega) (by omega)
            rw [Nat.mul_one] at this
            rw [this, nth_eq (by omega)]; rfl
          have E2 : (arr Uc N)[i]? = some (.i .u64 (nth 0 N i)) := by
            have := arr_get0 (f := Uc) Uc_len (l := N) (i := i) (by omega) (by omega)
            rw [Nat.mul_one] at this
            rw [this, nth_eq (by omega)]; rfl
          have ht := pairs_take L N i (by omega) (by omega)
          rw [← hMl] at hse
          cases i with
          | zero =>
            simp only [wbT, wbL]
            have I0 : (0 : Int) < ((M.length + 1 : Nat) : Int) := by omega
            have I1 : IntKind.i64.wrap 1 = 1 := by decide
            rw [Nat.zero_add] at ht
            refine run_sound (Tab.ok_Γ _) 300 _ _ _ _ ?_
            simp (config := { maxSteps := 10000000 }) only [run_drx, run_xd, run_xq, run_xg, run_xb, EV1, EV2, EV3, EV4, EV5, EV6, addT, istep, lenR_sl, lenR_ns, lenR_es, pickR, putD, bin1R, un1R, slcR, bnd, capsOf, fillP, S_plain, V_plain, V.cells, S_known, V_known, C.v, blk, setL, setH, eqS, eq1, cmpS, cmp1, isNil, popTo, killT, setT, leT, V.below, C.below, S_below, R.below, V.val, C.val, S_val, R.val, R.takes, vals, shows, List.any_cons, List.any_nil, unnamed, V.kill, V.names, C.names, S_names, R.names, List.set, List.replicate, ↓q_cond_t, ↓q_cond_f, if_true, if_false, reduceCtorEq, rvals, rvC, result, C_known, V.noL, C.noL, S_noL, R.noL, Option.map, true_and, and_true, ge_iff_le, gt_iff_lt, implies_true, q_ite_t, q_ite_f, beq_iff_eq, bne_iff_ne, q_ne, Nat.reduceAdd, Nat.reducePow, Int.reducePow, Nat.reduceMul, Nat.reduceSub, Nat.reduceLeDiff, Nat.reduceLT, Nat.reduceEqDiff, Int.reduceNeg, Int.reduceLT, Int.reduceLE, Int.reduceEq, Int.reduceNe, Int.reduceAdd, Int.reduceSub, Int.reduceMul, Int.reduceToNat, Int.reduceBEq, Int.reduceBNe, hse, I0, I1, hj9, hd, E1, E2, TP, app_getn, app_get0, List.getElem?_cons_zero, Int.natCast_zero]
            intro c3 hc3
            refine IH (1, c3) _ (by simp only; omega) ⟨by simp only; omega, hc3⟩ ?_
            simp only [wbT, wbL, ht, List.take_zero, List.nil_append]
            rw [← hse]
            refine Wk.sel [1] (by decide) hnq ?_ ?_ ?_ ?_ hcq (clean_pick hcq _)
            · simp (config := { maxSteps := 10000000 }) only [run_drx, run_xd, run_xq, run_xg, run_xb, EV1, EV2, EV3, EV4, EV5, EV6, addT, istep, lenR_sl, lenR_ns, lenR_es, pickR, putD, bin1R, un1R, slcR, bnd, capsOf, fillP, S_plain, V_plain, V.cells, S_known, V_known, C.v, blk, setL, setH, eqS, eq1, cmpS, cmp1, isNil, popTo, killT, setT, leT, V.below, C.below, S_below, R.below, V.val, C.val, S_val, R.val, R.takes, vals, shows, List.any_cons, List.any_nil, unnamed, V.kill, V.names, C.names, S_names, R.names, List.set, List.replicate, ↓q_cond_t, ↓q_cond_f, if_true, if_false, reduceCtorEq, rvals, rvC, result, C_known, V.noL, C.noL, S_noL, R.noL, Option.map, true_and, and_true, ge_iff_le, gt_iff_lt, implies_true, q_ite_t, q_ite_f, beq_iff_eq, bne_iff_ne, q_ne, Nat.reduceAdd, Nat.reducePow, Int.reducePow, Nat.reduceMul, Nat.reduceSub, Nat.reduceLeDiff, Nat.reduceLT, Nat.reduceEqDiff, Int.reduceNeg, Int.reduceLT, Int.reduceLE, Int.reduceEq, Int.reduceNe, Int.reduceAdd, Int.reduceSub, Int.reduceMul, Int.reduceToNat, Int.reduceBEq, Int.reduceBNe, List.nil_append, Blk.ren, V.ren, C.ren, S_ren, R.pick_g, R.pick_0, R.pick_s, List.map_append, fd_ren, arr, Fd.c]
            · simp (config := { maxSteps := 10000000 }) only [run_drx, run_xd, run_xq, run_xg, run_xb, EV1, EV2, EV3, EV4, EV5, EV6, addT, istep, lenR_sl, lenR_ns, lenR_es, pickR, putD, bin1R, un1R, slcR, bnd, capsOf, fillP, S_plain, V_plain, V.cells, S_known, V_known, C.v, blk, setL, setH, eqS, eq1, cmpS, cmp1, isNil, popTo, killT, setT, leT, V.below, C.below, S_below, R.below, V.val, C.val, S_val, R.val, R.takes, vals, shows, List.any_cons, List.any_nil, unnamed, V.kill, V.names, C.names, S_names, R.names, List.set, List.replicate, ↓q_cond_t, ↓q_cond_f, if_true, if_false, reduceCtorEq, rvals, rvC, result, C_known, V.noL, C.noL, S_noL, R.noL, Option.map, true_and, and_true, ge_iff_le, gt_iff_lt, implies_true, q_ite_t, q_ite_f, beq_iff_eq, bne_iff_ne, q_ne, Nat.reduceAdd, Nat.reducePow, Int.reducePow, Nat.reduceMul, Nat.reduceSub, Nat.reduceLeDiff, Nat.reduceLT, Nat.reduceEqDiff, Int.reduceNeg, Int.reduceLT, Int.reduceLE, Int.reduceEq, Int.reduceNe, Int.reduceAdd, Int.reduceSub, Int.reduceMul, Int.reduceToNat, Int.reduceBEq, Int.reduceBNe, List.nil_append, Blk.ren, V.ren, C.ren, S_ren, R.pick_g, R.pick_0, R.pick_s, hpk2, hpk]
            · simp (config := { maxSteps := 10000000 }) only [run_drx, run_xd, run_xq, run_xg, run_xb, EV1, EV2, EV3, EV4, EV5, EV6, addT, istep, lenR_sl, lenR_ns, lenR_es, pickR, putD, bin1R, un1R, slcR, bnd, capsOf, fillP, S_plain, V_plain, V.cells, S_known, V_known, C.v, blk, setL, setH, eqS, eq1, cmpS, cmp1, isNil, popTo, killT, setT, leT, V.below, C.below, S_below, R.below, V.val, C.val, S_val, R.val, R.takes, vals, shows, List.any_cons, List.any_nil, unnamed, V.kill, V.names, C.names, S_names, R.names, List.set, List.replicate, ↓q_cond_t, ↓q_cond_f, if_true, if_false, reduceCtorEq, rvals, rvC, result, C_known, V.noL, C.noL, S_noL, R.noL, Option.map, true_and, and_true, ge_iff_le, gt_iff_lt, implies_true, q_ite_t, q_ite_f, beq_iff_eq, bne_iff_ne, q_ne, Nat.reduceAdd, Nat.reducePow, Int.reducePow, Nat.reduceMul, Nat.reduceSub, Nat.reduceLeDiff, Nat.reduceLT, Nat.reduceEqDiff, Int.reduceNeg, Int.reduceLT, Int.reduceLE, Int.reduceEq, Int.reduceNe, Int.reduceAdd, Int.reduceSub, Int.reduceMul, Int.reduceToNat, Int.reduceBEq, Int.reduceBNe, List.nil_append, List.all_cons, List.all_nil, hvl, hvl2, h9, Nat.lt_add_one]
            · simp (config := { maxSteps := 10000000 }) only [run_drx, run_xd, run_xq, run_xg, run_xb, EV1, EV2, EV3, EV4, EV5, EV6, addT, istep, lenR_sl, lenR_ns, lenR_es, pickR, putD, bin1R, un1R, slcR, bnd, capsOf, fillP, S_plain, V_plain, V.cells, S_known, V_known, C.v, blk, setL, setH, eqS, eq1, cmpS, cmp1, isNil, popTo, killT, setT, leT, V.below, C.below, S_below, R.below, V.val, C.val, S_val, R.val, R.takes, vals, shows, List.any_cons, List.any_nil, unnamed, V.kill, V.names, C.names, S_names, R.names, List.set, List.replicate, ↓q_cond_t, ↓q_cond_f, if_true, if_false, reduceCtorEq, rvals, rvC, result, C_known, V.noL, C.noL, S_noL, R.noL, Option.map, true_and, and_true, ge_iff_le, gt_iff_lt, implies_true, q_ite_t, q_ite_f, beq_iff_eq, bne_iff_ne, q_ne, Nat.reduceAdd, Nat.reducePow, Int.reducePow, Nat.reduceMul, Nat.reduceSub, Nat.reduceLeDiff, Nat.reduceLT, Nat.reduceEqDiff, Int.reduceNeg, Int.reduceLT, Int.reduceLE, Int.reduceEq, Int.reduceNe, Int.reduceAdd, Int.reduceSub, Int.reduceMul, Int.reduceToNat, Int.reduceBEq, Int.reduceBNe, List.nil_append, List.all_cons, List.all_nil, arr, Fd.c]
          | succ i =>
            simp only [wbT, wbL]
            have hl1 : (arr Fd.c ((pairs L N).take (i + 1))).length = (i + 1) * 2 := by rw [fd_len]; congr 1; simp [pairs_len, hNl]; omega
            refine run_sound (Tab.ok_Γ _) 300 _ _ _ _ ?_
            simp (config := { maxSteps := 10000000 }) only [run_drx, run_xd, run_xq, run_xg, run_xb, EV1, EV2, EV3, EV4, EV5, EV6, addT, istep, lenR_sl, lenR_ns, lenR_es, pickR, putD, bin1R, un1R, slcR, bnd, capsOf, fillP, S_plain, V_plain, V.cells, S_known, V_known, C.v, blk, setL, setH, eqS, eq1, cmpS, cmp1, isNil, popTo, killT, setT, leT, V.below, C.below, S_below, R.below, V.val, C.val, S_val, R.val, R.takes, vals, shows, List.any_cons, List.any_nil, unnamed, V.kill, V.names, C.names, S_names, R.names, List.set, List.replicate, ↓q_cond_t, ↓q_cond_f, if_true, if_false, reduceCtorEq, rvals, rvC, result, C_known, V.noL, C.noL, S_noL, R.noL, Option.map, true_and, and_true, ge_iff_le, gt_iff_lt, implies_true, q_ite_t, q_ite_f, beq_iff_eq, bne_iff_ne, q_ne, Nat.reduceAdd, Nat.reducePow, Int.reducePow, Nat.reduceMul, Nat.reduceSub, Nat.reduceLeDiff, Nat.reduceLT, Nat.reduceEqDiff, Int.reduceNeg, Int.reduceLT, Int.reduceLE, Int.reduceEq, Int.reduceNe, Int.reduceAdd, Int.reduceSub, Int.reduceMul, Int.reduceToNat, Int.reduceBEq, Int.reduceBNe, hse, I, hj9, hd, E1, E2, TP, app_getn, app_get0, List.getElem?_cons_zero, hl1, fK, fN]
            refine ⟨by omega, fun c3 hc3 => ?_⟩
            refine IH (i + 2, c3) _ (by simp only; omega) ⟨by simp only; omega, hc3⟩ ?_
            simp only [wbT, wbL]
            rw [ht]
            simp only [arr_append, arr, List.append_nil]
            rw [← hse]
            refine Wk.keep 1 (by rfl) rfl ?_ ?_ ?_
            · simp (config := { maxSteps := 10000000 }) only [run_drx, run_xd, run_xq, run_xg, run_xb, EV1, EV2, EV3, EV4, EV5, EV6, addT, istep, lenR_sl, lenR_ns, lenR_es, pickR, putD, bin1R, un1R, slcR, bnd, capsOf, fillP, S_plain, V_plain, V.cells, S_known, V_known, C.v, blk, setL, setH, eqS, eq1, cmpS, cmp1, isNil, popTo, killT, setT, leT, V.below, C.below, S_below, R.below, V.val, C.val, S_val, R.val, R.takes, vals, shows, List.any_cons, List.any_nil, unnamed, V.kill, V.names, C.names, S_names, R.names, List.set, List.replicate, ↓q_cond_t, ↓q_cond_f, if_true, if_false, reduceCtorEq, rvals, rvC, result, C_known, V.noL, C.noL, S_noL, R.noL, Option.map, true_and, and_true, ge_iff_le, gt_iff_lt, implies_true, q_ite_t, q_ite_f, beq_iff_eq, bne_iff_ne, q_ne, Nat.reduceAdd, Nat.reducePow, Int.reducePow, Nat.reduceMul, Nat.reduceSub, Nat.reduceLeDiff, Nat.reduceLT, Nat.reduceEqDiff, Int.reduceNeg, Int.reduceLT, Int.reduceLE, Int.reduceEq, Int.reduceNe, Int.reduceAdd, Int.reduceSub, Int.reduceMul, Int.reduceToNat, Int.reduceBEq, Int.reduceBNe, hse, hnm]
            · simp (config := { maxSteps := 10000000 }) only [run_drx, run_xd, run_xq, run_xg, run_xb, EV1, EV2, EV3, EV4, EV5, EV6, addT, istep, lenR_sl, lenR_ns, lenR_es, pickR, putD, bin1R, un1R, slcR, bnd, capsOf, fillP, S_plain, V_plain, V.cells, S_known, V_known, C.v, blk, setL, setH, eqS, eq1, cmpS, cmp1, isNil, popTo, killT, setT, leT, V.below, C.below, S_below, R.below, V.val, C.val, S_val, R.val, R.takes, vals, shows, List.any_cons, List.any_nil, unnamed, V.kill, V.names, C.names, S_names, R.names, List.set, List.replicate, ↓q_cond_t, ↓q_cond_f, if_true, if_false, reduceCtorEq, rvals, rvC, result, C_known, V.noL, C.noL, S_noL, R.noL, Option.map, true_and, and_true, ge_iff_le, gt_iff_lt, implies_true, q_ite_t, q_ite_f, beq_iff_eq, bne_iff_ne, q_ne, Nat.reduceAdd, Nat.reducePow, Int.reducePow, Nat.reduceMul, Nat.reduceSub, Nat.reduceLeDiff, Nat.reduceLT, Nat.reduceEqDiff, Int.reduceNeg, Int.reduceLT, Int.reduceLE, Int.reduceEq, Int.reduceNe, Int.reduceAdd, Int.reduceSub, Int.reduceMul, Int.reduceToNat, Int.reduceBEq, Int.reduceBNe, hbl, hbl2]
            · simp (config := { maxSteps := 10000000 }) only [run_drx, run_xd, run_xq, run_xg, run_xb, EV1, EV2, EV3, EV4, EV5, EV6, addT, istep, lenR_sl, lenR_ns, lenR_es, pickR, putD, bin1R, un1R, slcR, bnd, capsOf, fillP, S_plain, V_plain, V.cells, S_known, V_known, C.v, blk, setL, setH, eqS, eq1, cmpS, cmp1, isNil, popTo, killT, setT, leT, V.below, C.below, S_below, R.below, V.val, C.val, S_val, R.val, R.takes, vals, shows, List.any_cons, List.any_nil, unnamed, V.kill, V.names, C.names, S_names, R.names, List.set, List.replicate, ↓q_cond_t, ↓q_cond_f, if_true, if_false, reduceCtorEq, rvals, rvC, result, C_known, V.noL, C.noL, S_noL, R.noL, Option.map, true_and, and_true, ge_iff_le, gt_iff_lt, implies_true, q_ite_t, q_ite_f, beq_iff_eq, bne_iff_ne, q_ne, Nat.reduceAdd, Nat.reducePow, Int.reducePow, Nat.reduceMul, Nat.reduceSub, Nat.reduceLeDiff, Nat.reduceLT, Nat.reduceEqDiff, Int.reduceNeg, Int.reduceLT, Int.reduceLE, Int.reduceEq, Int.reduceNe, Int.reduceAdd, Int.reduceSub, Int.reduceMul, Int.reduceToNat, Int.reduceBEq, Int.reduceBNe, List.all_append, List.all_cons, List.all_nil, fB, Fd.c]
        · have : i = M.length + 1 := by omega
          subst this
          simp only [wbT, wbL]
          have hLlen : ((pairs L N).take (M.length + 1)) = pairs L N := List.take_of_length_le (by simp [pairs_len, hNl]; omega)
          rw [hLlen]
          have hpl : (pairs L N).length = M.length + 1 := by rw [pairs_len]; omega
          have hpo : ∀ X, preOf Fd.c (h ++ ((⟨.rw, arr Uc N, c⟩ : Blk) :: ⟨.rw, arr Fd.c (pairs L N), c1' * 2⟩ :: X)) (.sl (.g (h.length + 1)) 0 (M.length + 1) c1') = some (pairs L N) := fun X => by
            rw [← hpl]
            exact preOf_eq (.inr ⟨h.length + 1, _, .rw, [], _, rfl, by rw [app_getn, List.append_nil]; rfl, fun _ => by decide⟩)
          have hpo := hpo []
          have hpu : ∀ f, f ∈ pairs L N → u64 f.v := pairs_v L N u64 hMu
          have hlen3 : ∀ ls h', lenR (.s s2) ls h' = .ok (.s (.i .i64 ((M.length + 1 : Nat) : Int))) ls h' := fun ls h' => by rw [hlen2, hMl]
          have tk1 : ∀ A B : Blk, List.take (h.length + 1) (h ++ [A, B]) = h ++ [A] := fun A B => by rw [List.take_append]; simp [List.take_of_length_le]
          have tk2 : ∀ A B : Blk, List.drop (h.length + 1) (h ++ [A, B]) = [B] := fun A B => by rw [List.drop_append]; simp [List.drop_eq_nil_of_le]
          refine run_sound (Tab.ok_Γ _) 300 _ _ _ _ ?_
          simp (config := { maxSteps := 10000000 }) only [run_drx, run_xd, run_xq, run_xg, run_xb, EV1, EV2, EV3, EV4, EV5, EV6, addT, istep, lenR_sl, lenR_ns, lenR_es, pickR, putD, bin1R, un1R, slcR, bnd, capsOf, fillP, S_plain, V_plain, V.cells, S_known, V_known, C.v, blk, setL, setH, eqS, eq1, cmpS, cmp1, isNil, popTo, killT, setT, leT, V.below, C.below, S_below, R.below, V.val, C.val, S_val, R.val, R.takes, vals, shows, List.any_cons, List.any_nil, unnamed, V.kill, V.names, C.names, S_names, R.names, List.set, List.replicate, ↓q_cond_t, ↓q_cond_f, if_true, if_false, reduceCtorEq, rvals, rvC, result, C_known, V.noL, C.noL, S_noL, R.noL, Option.map, true_and, and_true, ge_iff_le, gt_iff_lt, implies_true, q_ite_t, q_ite_f, beq_iff_eq, bne_iff_ne, q_ne, Nat.reduceAdd, Nat.reducePow, Int.reducePow, Nat.reduceMul, Nat.reduceSub, Nat.reduceLeDiff, Nat.reduceLT, Nat.reduceEqDiff, Int.reduceNeg, Int.reduceLT, Int.reduceLE, Int.reduceEq, Int.reduceNe, Int.reduceAdd, Int.reduceSub, Int.reduceMul, Int.reduceToNat, Int.reduceBEq, Int.reduceBNe, Int.lt_irrefl, TP, pack4G, R.lend, R.unlend, S_ren, C.ren, V.ren, Blk.ren, take_app, drop_app, Nat.not_lt_zero, Nat.lt_irrefl, Nat.add_sub_cancel_left, Nat.not_lt, Nat.le_add_right, h9, uc_ren, fd_ren, hpo, hpl, hc64, q1, q2, hbn, ↓hlen3, tk1, tk2, hc9]
          exact ⟨hpu, cut_app (Nat.le_refl _) hc rfl hK⟩
  | false =>
    refine run_sound (Tab.ok_Γ _) 300 _ _ _ _ ?_
    simp (config := { maxSteps := 10000000 }) only [run_drx, run_xd, run_xq, run_xg, run_xb, EV1, EV2, EV3, EV4, EV5, EV6, addT, istep, lenR_sl, lenR_ns, lenR_es, pickR, putD, bin1R, un1R, slcR, bnd, capsOf, fillP, S_plain, V_plain, V.cells, S_known, V_known, C.v, blk, setL, setH, eqS, eq1, cmpS, cmp1, isNil, popTo, killT, setT, leT, V.below, C.below, S_below, R.below, V.val, C.val, S_val, R.val, R.takes, vals, shows, List.any_cons, List.any_nil, unnamed, V.kill, V.names, C.names, S_names, R.names, List.set, List.replicate, ↓q_cond_t, ↓q_cond_f, if_true, if_false, reduceCtorEq, rvals, rvC, result, C_known, V.noL, C.noL, S_noL, R.noL, Option.map, true_and, and_true, ge_iff_le, gt_iff_lt, implies_true, q_ite_t, q_ite_f, beq_iff_eq, bne_iff_ne, q_ne, Nat.reduceAdd, Nat.reducePow, Int.reducePow, Nat.reduceMul, Nat.reduceSub, Nat.reduceLeDiff, Nat.reduceLT, Nat.reduceEqDiff, Int.reduceNeg, Int.reduceLT, Int.reduceLE, Int.reduceEq, Int.reduceNe, Int.reduceAdd, Int.reduceSub, Int.reduceMul, Int.reduceToNat, Int.reduceBEq, Int.reduceBNe, TP, unpack4G, R.lend, R.unlend, S_ren, C.ren, V.ren, Blk.ren, take_app, drop_app, Nat.not_lt_zero, Nat.lt_irrefl, Nat.add_sub_cancel_left, Nat.not_lt, Nat.le_add_right, hwu, hL64, hp20, hb, wordsR, pairV, ↓hkn2, ↓hnl2, hld2, hbn, setT]
    exact hFin

theorem sumOnes_take {F : List Fd} {i : Nat} (h : i < F.length) : sumOnes (F.take (i + 1)) = sumOnes (F.take i) + Pop.ones 64 (nth Fd.z F i).v.toNat := by
  induction F generalizing i with
  | nil => simp at h
  | cons f F ih =>
    cases i with
    | zero => simp [sumOnes, nth]
    | succ i =>
      have := ih (i := i) (by simpa using h)
      simp only [List.take_succ_cons, sumOnes, this]
      have e : nth Fd.z (f :: F) (i + 1) = nth Fd.z F i := rfl
      rw [e]; omega
theorem ones_le (n x : Nat) : Pop.ones n x ≤ n := by
  induction n generalizing x with
  | zero => exact Nat.le_refl _
  | succ n ih =>
    have := ih (x / 2)
    simp only [Pop.ones]
    omega
theorem sumOnes_le : ∀ F : List Fd, sumOnes F ≤ 64 * F.length
  | [] => Nat.le_refl _
  | f :: F => by
    have h1 := sumOnes_le F
    have h2 := ones_le 64 f.v.toNat
    simp only [sumOnes, List.length_cons]; omega

def wordBackS : FSpec := fun args h K => ∃ s F w s2 L, args = [.s s, .s (.i .u64 w), .s s2] ∧ IsArr Fd.c h s F ∧ (∀ f, f ∈ F → u64 f.v) ∧ u64 w ∧ IsArr Ic h s2 L ∧ K (.s (.b true)) h
theorem wordBack_snd : Snd Tryd.prog 7 wordBackS := (fwp_sound (Tab.snd_Γ TP_snd) mixed Tryd.func7 dc7).cut fun args h K hc hS => by
  obtain ⟨s, F, w, s2, L, rfl, Hs, hu, hw, Hs2, hK⟩ := hS
  obtain ⟨w, rfl, hw'⟩ := hw.nat
  have hFin : Cut h.length K (.s (.b true)) h := cut_all (Nat.le_refl _) hc rfl hK
  have hlen := fun ls h' => Hs.sl.len (ls := ls) (h := h')
  have hkn := Hs.sl.known
  have hnl := Hs.sl.noL
  have hlen2 := fun ls h' => Hs2.sl.len (ls := ls) (h := h')
  have hkn2 := Hs2.sl.known
  have hnl2 := Hs2.sl.noL
  by_cases c0 : (2147483647 : Int) < F.length
  · refine fwp_run (Tab.ok_Γ _) 600 ?_
    simp (config := { maxSteps := 10000000 }) only [run_drx, run_xd, run_xq, run_xg, run_xb, EV1, EV2, EV3, EV4, EV5, EV6, addT, istep, lenR_sl, lenR_ns, lenR_es, pickR, putD, bin1R, un1R, slcR, bnd, capsOf, fillP, S_plain, V_plain, V.cells, S_known, V_known, C.v, blk, setL, setH, eqS, eq1, cmpS, cmp1, isNil, popTo, killT, setT, leT, V.below, C.below, S_below, R.below, V.val, C.val, S_val, R.val, R.takes, vals, shows, List.any_cons, List.any_nil, unnamed, V.kill, V.names, C.names, S_names, R.names, List.set, List.replicate, ↓q_cond_t, ↓q_cond_f, if_true, if_false, reduceCtorEq, rvals, rvC, result, C_known, V.noL, C.noL, S_noL, R.noL, Option.map, true_and, and_true, ge_iff_le, gt_iff_lt, implies_true, q_ite_t, q_ite_f, beq_iff_eq, bne_iff_ne, q_ne, Nat.reduceAdd, Nat.reducePow, Int.reducePow, Nat.reduceMul, Nat.reduceSub, Nat.reduceLeDiff, Nat.reduceLT, Nat.reduceEqDiff, Int.reduceNeg, Int.reduceLT, Int.reduceLE, Int.reduceEq, Int.reduceNe, Int.reduceAdd, Int.reduceSub, Int.reduceMul, Int.reduceToNat, Int.reduceBEq, Int.reduceBNe, df7, ↓hlen, ↓hlen2, ↓hkn, ↓hkn2, c0]
    exact hFin
  by_cases c1 : (2147483647 : Int) < L.length
  · refine fwp_run (Tab.ok_Γ _) 600 ?_
    simp (config := { maxSteps := 10000000 }) only [run_drx, run_xd, run_xq, run_xg, run_xb, EV1, EV2, EV3, EV4, EV5, EV6, addT, istep, lenR_sl, lenR_ns, lenR_es, pickR, putD, bin1R, un1R, slcR, bnd, capsOf, fillP, S_plain, V_plain, V.cells, S_known, V_known, C.v, blk, setL, setH, eqS, eq1, cmpS, cmp1, isNil, popTo, killT, setT, leT, V.below, C.below, S_below, R.below, V.val, C.val, S_val, R.val, R.takes, vals, shows, List.any_cons, List.any_nil, unnamed, V.kill, V.names, C.names, S_names, R.names, List.set, List.replicate, ↓q_cond_t, ↓q_cond_f, if_true, if_false, reduceCtorEq, rvals, rvC, result, C_known, V.noL, C.noL, S_noL, R.noL, Option.map, true_and, and_true, ge_iff_le, gt_iff_lt, implies_true, q_ite_t, q_ite_f, beq_iff_eq, bne_iff_ne, q_ne, Nat.reduceAdd, Nat.reducePow, Int.reducePow, Nat.reduceMul, Nat.reduceSub, Nat.reduceLeDiff, Nat.reduceLT, Nat.reduceEqDiff, Int.reduceNeg, Int.reduceLT, Int.reduceLE, Int.reduceEq, Int.reduceNe, Int.reduceAdd, Int.reduceSub, Int.reduceMul, Int.reduceToNat, Int.reduceBEq, Int.reduceBNe, df7, ↓hlen, ↓hlen2, ↓hkn, ↓hkn2, c0, c1]
    exact hFin
  have key := wb_end (F := F) hc Hs hw' Hs2 c1 hK
  have hbl := Hs.sl.below
  have hbl2 := Hs2.sl.below
  have hpF : preOf Fd.c h s = some F := preOf_eq Hs.pre
  have hF64 : F.length ≤ 9223372036854775807 := by omega
  have hbn : ∀ a b : Nat, ¬ (a + b < a) := fun a b => by omega
  refine fwp_of _ (fun _ _ => finP_fin) (cut_at 5 ?_)
  simp only [df7]
  cases hpb : packB F 0 with
  | false =>
    refine run_sound (Tab.ok_Γ _) 200 _ _ _ _ ?_
    simp (config := { maxSteps := 10000000 }) only [run_drx, run_xd, run_xq, run_xg, run_xb, EV1, EV2, EV3, EV4, EV5, EV6, addT, istep, lenR_sl, lenR_ns, lenR_es, pickR, putD, bin1R, un1R, slcR, bnd, capsOf, fillP, S_plain, V_plain, V.cells, S_known, V_known, C.v, blk, setL, setH, eqS, eq1, cmpS, cmp1, isNil, popTo, killT, setT, leT, V.below, C.below, S_below, R.below, V.val, C.val, S_val, R.val, R.takes, vals, shows, List.any_cons, List.any_nil, unnamed, V.kill, V.names, C.names, S_names, R.names, List.set, List.replicate, ↓q_cond_t, ↓q_cond_f, if_true, if_false, reduceCtorEq, rvals, rvC, result, C_known, V.noL, C.noL, S_noL, R.noL, Option.map, true_and, and_true, ge_iff_le, gt_iff_lt, implies_true, q_ite_t, q_ite_f, beq_iff_eq, bne_iff_ne, q_ne, Nat.reduceAdd, Nat.reducePow, Int.reducePow, Nat.reduceMul, Nat.reduceSub, Nat.reduceLeDiff, Nat.reduceLT, Nat.reduceEqDiff, Int.reduceNeg, Int.reduceLT, Int.reduceLE, Int.reduceEq, Int.reduceNe, Int.reduceAdd, Int.reduceSub, Int.reduceMul, Int.reduceToNat, Int.reduceBEq, Int.reduceBNe, TP, awake1G, pack4G, ↓hlen, ↓hlen2, ↓hkn, ↓hkn2, ↓hnl, c0, c1, hpF, hF64, hpb]
    refine ⟨hu, swp_weak (Wk.keep 0 rfl rfl ?_ ?_ rfl) key⟩
    · simp (config := { maxSteps := 10000000 }) only [run_drx, run_xd, run_xq, run_xg, run_xb, EV1, EV2, EV3, EV4, EV5, EV6, addT, istep, lenR_sl, lenR_ns, lenR_es, pickR, putD, bin1R, un1R, slcR, bnd, capsOf, fillP, S_plain, V_plain, V.cells, S_known, V_known, C.v, blk, setL, setH, eqS, eq1, cmpS, cmp1, isNil, popTo, killT, setT, leT, V.below, C.below, S_below, R.below, V.val, C.val, S_val, R.val, R.takes, vals, shows, List.any_cons, List.any_nil, unnamed, V.kill, V.names, C.names, S_names, R.names, List.set, List.replicate, ↓q_cond_t, ↓q_cond_f, if_true, if_false, reduceCtorEq, rvals, rvC, result, C_known, V.noL, C.noL, S_noL, R.noL, Option.map, true_and, and_true, ge_iff_le, gt_iff_lt, implies_true, q_ite_t, q_ite_f, beq_iff_eq, bne_iff_ne, q_ne, Nat.reduceAdd, Nat.reducePow, Int.reducePow, Nat.reduceMul, Nat.reduceSub, Nat.reduceLeDiff, Nat.reduceLT, Nat.reduceEqDiff, Int.reduceNeg, Int.reduceLT, Int.reduceLE, Int.reduceEq, Int.reduceNe, Int.reduceAdd, Int.reduceSub, Int.reduceMul, Int.reduceToNat, Int.reduceBEq, Int.reduceBNe, wbS]
    · simp (config := { maxSteps := 10000000 }) only [run_drx, run_xd, run_xq, run_xg, run_xb, EV1, EV2, EV3, EV4, EV5, EV6, addT, istep, lenR_sl, lenR_ns, lenR_es, pickR, putD, bin1R, un1R, slcR, bnd, capsOf, fillP, S_plain, V_plain, V.cells, S_known, V_known, C.v, blk, setL, setH, eqS, eq1, cmpS, cmp1, isNil, popTo, killT, setT, leT, V.below, C.below, S_below, R.below, V.val, C.val, S_val, R.val, R.takes, vals, shows, List.any_cons, List.any_nil, unnamed, V.kill, V.names, C.names, S_names, R.names, List.set, List.replicate, ↓q_cond_t, ↓q_cond_f, if_true, if_false, reduceCtorEq, rvals, rvC, result, C_known, V.noL, C.noL, S_noL, R.noL, Option.map, true_and, and_true, ge_iff_le, gt_iff_lt, implies_true, q_ite_t, q_ite_f, beq_iff_eq, bne_iff_ne, q_ne, Nat.reduceAdd, Nat.reducePow, Int.reducePow, Nat.reduceMul, Nat.reduceSub, Nat.reduceLeDiff, Nat.reduceLT, Nat.reduceEqDiff, Int.reduceNeg, Int.reduceLT, Int.reduceLE, Int.reduceEq, Int.reduceNe, Int.reduceAdd, Int.reduceSub, Int.reduceMul, Int.reduceToNat, Int.reduceBEq, Int.reduceBNe, wbS, hbl, hbl2, List.all_cons, List.all_nil, List.take_zero, List.length_nil]
  | true =>
    have hnn : ∀ f, f ∈ F → 0 ≤ f.v := fun f hf => (hu f hf).1
    obtain ⟨N, hN⟩ : ∃ N : Nat, packV F 0 = N := by
      obtain ⟨q, hq⟩ := packV_mul F 0 hpb
      exact ⟨_, hq⟩
    obtain ⟨u1, u2⟩ := unpack_pack F 0 0 N hpb (by decide) (by simpa using hN.symm) hnn
    have hones := ones_pack F 0 0 N hpb (by omega) (by decide) (by simpa using hN.symm) hnn
    have hN64 := packV_lt F 0 0 N hpb (by omega) (by decide) (by simpa using hN.symm) hnn
    rw [ones_zero, Nat.zero_add] at hones
    have hNu : u64 (N : Int) := u64_of hN64
    have iB : ∀ k M, (arr Ic M).all (S.below k) = true := fun k => ic_all _ fun _ => rfl
    have iK : ∀ M, known (arr Ic M) = true := ic_all _ fun _ => rfl
    have uB : ∀ k M, (arr Uc M).all (S.below k) = true := fun k => uc_all _ fun _ => rfl
    have iN : ∀ k M, ((arr Ic M).all fun s => !S.names k s) = true := fun k => ic_all _ fun _ => rfl
    have hnm := Hs.sl.names
    have hnm2 := Hs2.sl.names
    have hpk := Hs.sl.pick
    have hpk2 := Hs2.sl.pick
    have hcq := hc
    have hnq : h.length ≤ h.length := Nat.le_refl _
    have hvl := fun m => Hs.sl.val (Nat.le_refl h.length) (m := m)
    have hvl2 := fun m => Hs2.sl.val (Nat.le_refl h.length) (m := m)
    refine run_sound (Tab.ok_Γ _) 200 _ _ _ _ ?_
    simp (config := { maxSteps := 10000000 }) only [run_drx, run_xd, run_xq, run_xg, run_xb, EV1, EV2, EV3, EV4, EV5, EV6, addT, istep, lenR_sl, lenR_ns, lenR_es, pickR, putD, bin1R, un1R, slcR, bnd, capsOf, fillP, S_plain, V_plain, V.cells, S_known, V_known, C.v, blk, setL, setH, eqS, eq1, cmpS, cmp1, isNil, popTo, killT, setT, leT, V.below, C.below, S_below, R.below, V.val, C.val, S_val, R.val, R.takes, vals, shows, List.any_cons, List.any_nil, unnamed, V.kill, V.names, C.names, S_names, R.names, List.set, List.replicate, ↓q_cond_t, ↓q_cond_f, if_true, if_false, reduceCtorEq, rvals, rvC, result, C_known, V.noL, C.noL, S_noL, R.noL, Option.map, true_and, and_true, ge_iff_le, gt_iff_lt, implies_true, q_ite_t, q_ite_f, beq_iff_eq, bne_iff_ne, q_ne, Nat.reduceAdd, Nat.reducePow, Int.reducePow, Nat.reduceMul, Nat.reduceSub, Nat.reduceLeDiff, Nat.reduceLT, Nat.reduceEqDiff, Int.reduceNeg, Int.reduceLT, Int.reduceLE, Int.reduceEq, Int.reduceNe, Int.reduceAdd, Int.reduceSub, Int.reduceMul, Int.reduceToNat, Int.reduceBEq, Int.reduceBNe, TP, awake1G, pack4G, ↓hlen, ↓hlen2, ↓hkn, ↓hkn2, ↓hnl, c0, c1, hpF, hF64, hpb, hN]
    refine ⟨hu, ?_⟩
    refine loop_rule (α := Nat × Nat) [10, 11, 12, 38, 39, 40, 41, 42, 43, 44, 45, 46, 47, 48, 49, 50, 51, 52, 53, 54, 55, 56, 57, 58, 59] (fun y => [(10, wbT y.2 y.1), (11, .s (.i .i64 (sumOnes (F.take y.1) : Int))), (12, .s (.i .i64 (y.1 : Int)))]) (fun y => wbL (fun i => arr Ic ((F.take i).map Fd.b)) y.2 y.1) (fun _ => h)
      (fun y => y.1 ≤ F.length ∧ y.1 ≤ y.2) (fun y => F.length - y.1) (0, 0) ⟨Nat.zero_le _, Nat.le_refl _⟩ (Wk.same rfl rfl ?_) ?_
    · simp (config := { maxSteps := 10000000 }) only [run_drx, run_xd, run_xq, run_xg, run_xb, EV1, EV2, EV3, EV4, EV5, EV6, addT, istep, lenR_sl, lenR_ns, lenR_es, pickR, putD, bin1R, un1R, slcR, bnd, capsOf, fillP, S_plain, V_plain, V.cells, S_known, V_known, C.v, blk, setL, setH, eqS, eq1, cmpS, cmp1, isNil, popTo, killT, setT, leT, V.below, C.below, S_below, R.below, V.val, C.val, S_val, R.val, R.takes, vals, shows, List.any_cons, List.any_nil, unnamed, V.kill, V.names, C.names, S_names, R.names, List.set, List.replicate, ↓q_cond_t, ↓q_cond_f, if_true, if_false, reduceCtorEq, rvals, rvC, result, C_known, V.noL, C.noL, S_noL, R.noL, Option.map, true_and, and_true, ge_iff_le, gt_iff_lt, implies_true, q_ite_t, q_ite_f, beq_iff_eq, bne_iff_ne, q_ne, Nat.reduceAdd, Nat.reducePow, Int.reducePow, Nat.reduceMul, Nat.reduceSub, Nat.reduceLeDiff, Nat.reduceLT, Nat.reduceEqDiff, Int.reduceNeg, Int.reduceLT, Int.reduceLE, Int.reduceEq, Int.reduceNe, Int.reduceAdd, Int.reduceSub, Int.reduceMul, Int.reduceToNat, Int.reduceBEq, Int.reduceBNe, Int.natCast_zero, wbT, List.take_zero, sumOnes]
    · rintro X ⟨i, c1'⟩ ⟨hi, hic⟩ IH
      simp only at hi hic ⊢
      rcases Nat.lt_or_ge i F.length with hlt | hge
      · have I := idx hlt hF64
        obtain ⟨j, cc, st, room, hse, hj, hd⟩ := Hs.at hlt
        have hjl : j < h.length := (List.getElem?_eq_some_iff.1 hj).1
        have E1 : (arr Fd.c F)[i * 2]? = some (.i .i64 (nth Fd.z F i).b) := by rw [arr_get0 Fd.c_len hlt (by omega), nth_eq hlt]; rfl
        have E2 : (arr Fd.c F)[i * 2 + 1]? = some (.i .u64 (nth Fd.z F i).v) := by rw [arr_get Fd.c_len hlt (by omega), nth_eq hlt]; rfl
        have ht : F.take (i + 1) = F.take i ++ [nth Fd.z F i] := by rw [List.take_succ_eq_append_getElem hlt, nth_eq hlt]
        have hs := sumOnes_take hlt
        have hsl := sumOnes_le (F.take (i + 1))
        rw [List.length_take] at hsl
        obtain ⟨f, hf⟩ : ∃ f, f = nth Fd.z F i := ⟨_, rfl⟩
        have hfu : u64 f.v := hu f (by rw [hf, nth_eq hlt]; exact List.getElem_mem hlt)
        have hw9 : IntKind.i64.wrap ((sumOnes (F.take i) : Int) + (Pop.ones 64 f.v.toNat : Int)) = (sumOnes (F.take (i + 1)) : Int) := by
          rw [hs, ← hf]
          rw [hs, ← hf] at hsl
          rw [wrap64] <;> omega
        rw [← hf] at E1 E2 ht
        cases i with
        | zero =>
          simp only [Nat.zero_mul, Nat.zero_add] at E1 E2 ht hw9
          simp only [wbT, wbL]
          have I0 : (0 : Int) < F.length := by omega
          have I1 : IntKind.i64.wrap 1 = 1 := by decide
          refine run_sound (Tab.ok_Γ _) 300 _ _ _ _ ?_
          simp (config := { maxSteps := 10000000 }) only [run_drx, run_xd, run_xq, run_xg, run_xb, EV1, EV2, EV3, EV4, EV5, EV6, addT, istep, lenR_sl, lenR_ns, lenR_es, pickR, putD, bin1R, un1R, slcR, bnd, capsOf, fillP, S_plain, V_plain, V.cells, S_known, V_known, C.v, blk, setL, setH, eqS, eq1, cmpS, cmp1, isNil, popTo, killT, setT, leT, V.below, C.below, S_below, R.below, V.val, C.val, S_val, R.val, R.takes, vals, shows, List.any_cons, List.any_nil, unnamed, V.kill, V.names, C.names, S_names, R.names, List.set, List.replicate, ↓q_cond_t, ↓q_cond_f, if_true, if_false, reduceCtorEq, rvals, rvC, result, C_known, V.noL, C.noL, S_noL, R.noL, Option.map, true_and, and_true, ge_iff_le, gt_iff_lt, implies_true, q_ite_t, q_ite_f, beq_iff_eq, bne_iff_ne, q_ne, Nat.reduceAdd, Nat.reducePow, Int.reducePow, Nat.reduceMul, Nat.reduceSub, Nat.reduceLeDiff, Nat.reduceLT, Nat.reduceEqDiff, Int.reduceNeg, Int.reduceLT, Int.reduceLE, Int.reduceEq, Int.reduceNe, Int.reduceAdd, Int.reduceSub, Int.reduceMul, Int.reduceToNat, Int.reduceBEq, Int.reduceBNe, ↓hlen, ↓hkn, hse, I0, I1, hj, hd, E1, E2, ↓hnm2, TP, onesG, hfu, hw9]
          intro c3 hc3
          refine IH (1, c3) _ (by simp only; omega) ⟨by simp only; omega, hc3⟩ ?_
          simp only [wbT, wbL, ht, List.take_zero, List.nil_append, List.map_cons, List.map_nil]
          refine Wk.sel [1] (by decide) hnq ?_ ?_ ?_ ?_ hcq (clean_pick hcq _)
          · simp (config := { maxSteps := 10000000 }) only [run_drx, run_xd, run_xq, run_xg, run_xb, EV1, EV2, EV3, EV4, EV5, EV6, addT, istep, lenR_sl, lenR_ns, lenR_es, pickR, putD, bin1R, un1R, slcR, bnd, capsOf, fillP, S_plain, V_plain, V.cells, S_known, V_known, C.v, blk, setL, setH, eqS, eq1, cmpS, cmp1, isNil, popTo, killT, setT, leT, V.below, C.below, S_below, R.below, V.val, C.val, S_val, R.val, R.takes, vals, shows, List.any_cons, List.any_nil, unnamed, V.kill, V.names, C.names, S_names, R.names, List.set, List.replicate, ↓q_cond_t, ↓q_cond_f, if_true, if_false, reduceCtorEq, rvals, rvC, result, C_known, V.noL, C.noL, S_noL, R.noL, Option.map, true_and, and_true, ge_iff_le, gt_iff_lt, implies_true, q_ite_t, q_ite_f, beq_iff_eq, bne_iff_ne, q_ne, Nat.reduceAdd, Nat.reducePow, Int.reducePow, Nat.reduceMul, Nat.reduceSub, Nat.reduceLeDiff, Nat.reduceLT, Nat.reduceEqDiff, Int.reduceNeg, Int.reduceLT, Int.reduceLE, Int.reduceEq, Int.reduceNe, Int.reduceAdd, Int.reduceSub, Int.reduceMul, Int.reduceToNat, Int.reduceBEq, Int.reduceBNe, List.nil_append, Blk.ren, V.ren, C.ren, S_ren, R.pick_g, R.pick_0, R.pick_s, List.map_append, arr, Ic]
          · simp (config := { maxSteps := 10000000 }) only [run_drx, run_xd, run_xq, run_xg, run_xb, EV1, EV2, EV3, EV4, EV5, EV6, addT, istep, lenR_sl, lenR_ns, lenR_es, pickR, putD, bin1R, un1R, slcR, bnd, capsOf, fillP, S_plain, V_plain, V.cells, S_known, V_known, C.v, blk, setL, setH, eqS, eq1, cmpS, cmp1, isNil, popTo, killT, setT, leT, V.below, C.below, S_below, R.below, V.val, C.val, S_val, R.val, R.takes, vals, shows, List.any_cons, List.any_nil, unnamed, V.kill, V.names, C.names, S_names, R.names, List.set, List.replicate, ↓q_cond_t, ↓q_cond_f, if_true, if_false, reduceCtorEq, rvals, rvC, result, C_known, V.noL, C.noL, S_noL, R.noL, Option.map, true_and, and_true, ge_iff_le, gt_iff_lt, implies_true, q_ite_t, q_ite_f, beq_iff_eq, bne_iff_ne, q_ne, Nat.reduceAdd, Nat.reducePow, Int.reducePow, Nat.reduceMul, Nat.reduceSub, Nat.reduceLeDiff, Nat.reduceLT, Nat.reduceEqDiff, Int.reduceNeg, Int.reduceLT, Int.reduceLE, Int.reduceEq, Int.reduceNe, Int.reduceAdd, Int.reduceSub, Int.reduceMul, Int.reduceToNat, Int.reduceBEq, Int.reduceBNe, List.nil_append, Blk.ren, V.ren, C.ren, S_ren, R.pick_g, R.pick_0, R.pick_s, hse, hpk2, ht]
          · simp (config := { maxSteps := 10000000 }) only [run_drx, run_xd, run_xq, run_xg, run_xb, EV1, EV2, EV3, EV4, EV5, EV6, addT, istep, lenR_sl, lenR_ns, lenR_es, pickR, putD, bin1R, un1R, slcR, bnd, capsOf, fillP, S_plain, V_plain, V.cells, S_known, V_known, C.v, blk, setL, setH, eqS, eq1, cmpS, cmp1, isNil, popTo, killT, setT, leT, V.below, C.below, S_below, R.below, V.val, C.val, S_val, R.val, R.takes, vals, shows, List.any_cons, List.any_nil, unnamed, V.kill, V.names, C.names, S_names, R.names, List.set, List.replicate, ↓q_cond_t, ↓q_cond_f, if_true, if_false, reduceCtorEq, rvals, rvC, result, C_known, V.noL, C.noL, S_noL, R.noL, Option.map, true_and, and_true, ge_iff_le, gt_iff_lt, implies_true, q_ite_t, q_ite_f, beq_iff_eq, bne_iff_ne, q_ne, Nat.reduceAdd, Nat.reducePow, Int.reducePow, Nat.reduceMul, Nat.reduceSub, Nat.reduceLeDiff, Nat.reduceLT, Nat.reduceEqDiff, Int.reduceNeg, Int.reduceLT, Int.reduceLE, Int.reduceEq, Int.reduceNe, Int.reduceAdd, Int.reduceSub, Int.reduceMul, Int.reduceToNat, Int.reduceBEq, Int.reduceBNe, List.nil_append, List.all_cons, List.all_nil, hse, hvl2, hjl]
          · simp (config := { maxSteps := 10000000 }) only [run_drx, run_xd, run_xq, run_xg, run_xb, EV1, EV2, EV3, EV4, EV5, EV6, addT, istep, lenR_sl, lenR_ns, lenR_es, pickR, putD, bin1R, un1R, slcR, bnd, capsOf, fillP, S_plain, V_plain, V.cells, S_known, V_known, C.v, blk, setL, setH, eqS, eq1, cmpS, cmp1, isNil, popTo, killT, setT, leT, V.below, C.below, S_below, R.below, V.val, C.val, S_val, R.val, R.takes, vals, shows, List.any_cons, List.any_nil, unnamed, V.kill, V.names, C.names, S_names, R.names, List.set, List.replicate, ↓q_cond_t, ↓q_cond_f, if_true, if_false, reduceCtorEq, rvals, rvC, result, C_known, V.noL, C.noL, S_noL, R.noL, Option.map, true_and, and_true, ge_iff_le, gt_iff_lt, implies_true, q_ite_t, q_ite_f, beq_iff_eq, bne_iff_ne, q_ne, Nat.reduceAdd, Nat.reducePow, Int.reducePow, Nat.reduceMul, Nat.reduceSub, Nat.reduceLeDiff, Nat.reduceLT, Nat.reduceEqDiff, Int.reduceNeg, Int.reduceLT, Int.reduceLE, Int.reduceEq, Int.reduceNe, Int.reduceAdd, Int.reduceSub, Int.reduceMul, Int.reduceToNat, Int.reduceBEq, Int.reduceBNe, List.nil_append, List.all_cons, List.all_nil, arr, Ic]
        | succ i =>
          have hl1 : (arr Ic ((F.take (i + 1)).map Fd.b)).length = i + 1 := by rw [arr_length Ic_len]; simp; omega
          simp only [wbT, wbL]
          refine run_sound (Tab.ok_Γ _) 300 _ _ _ _ ?_
          simp (config := { maxSteps := 10000000 }) only [run_drx, run_xd, run_xq, run_xg, run_xb, EV1, EV2, EV3, EV4, EV5, EV6, addT, istep, lenR_sl, lenR_ns, lenR_es, pickR, putD, bin1R, un1R, slcR, bnd, capsOf, fillP, S_plain, V_plain, V.cells, S_known, V_known, C.v, blk, setL, setH, eqS, eq1, cmpS, cmp1, isNil, popTo, killT, setT, leT, V.below, C.below, S_below, R.below, V.val, C.val, S_val, R.val, R.takes, vals, shows, List.any_cons, List.any_nil, unnamed, V.kill, V.names, C.names, S_names, R.names, List.set, List.replicate, ↓q_cond_t, ↓q_cond_f, if_true, if_false, reduceCtorEq, rvals, rvC, result, C_known, V.noL, C.noL, S_noL, R.noL, Option.map, true_and, and_true, ge_iff_le, gt_iff_lt, implies_true, q_ite_t, q_ite_f, beq_iff_eq, bne_iff_ne, q_ne, Nat.reduceAdd, Nat.reducePow, Int.reducePow, Nat.reduceMul, Nat.reduceSub, Nat.reduceLeDiff, Nat.reduceLT, Nat.reduceEqDiff, Int.reduceNeg, Int.reduceLT, Int.reduceLE, Int.reduceEq, Int.reduceNe, Int.reduceAdd, Int.reduceSub, Int.reduceMul, Int.reduceToNat, Int.reduceBEq, Int.reduceBNe, ↓hlen, ↓hkn, hse, I, hj, hd, E1, E2, ↓hnm2, hl1, iK, iN, TP, onesG, hfu, hw9]
          refine ⟨by omega, fun c3 hc3 => ?_⟩
          refine IH (i + 2, c3) _ (by simp only; omega) ⟨by simp only; omega, hc3⟩ ?_
          simp only [wbT, wbL]
          rw [ht]
          simp only [List.map_append, List.map_cons, List.map_nil, arr_append, arr, List.append_nil]
          refine Wk.keep 1 (by rfl) rfl ?_ ?_ ?_
          · simp (config := { maxSteps := 10000000 }) only [run_drx, run_xd, run_xq, run_xg, run_xb, EV1, EV2, EV3, EV4, EV5, EV6, addT, istep, lenR_sl, lenR_ns, lenR_es, pickR, putD, bin1R, un1R, slcR, bnd, capsOf, fillP, S_plain, V_plain, V.cells, S_known, V_known, C.v, blk, setL, setH, eqS, eq1, cmpS, cmp1, isNil, popTo, killT, setT, leT, V.below, C.below, S_below, R.below, V.val, C.val, S_val, R.val, R.takes, vals, shows, List.any_cons, List.any_nil, unnamed, V.kill, V.names, C.names, S_names, R.names, List.set, List.replicate, ↓q_cond_t, ↓q_cond_f, if_true, if_false, reduceCtorEq, rvals, rvC, result, C_known, V.noL, C.noL, S_noL, R.noL, Option.map, true_and, and_true, ge_iff_le, gt_iff_lt, implies_true, q_ite_t, q_ite_f, beq_iff_eq, bne_iff_ne, q_ne, Nat.reduceAdd, Nat.reducePow, Int.reducePow, Nat.reduceMul, Nat.reduceSub, Nat.reduceLeDiff, Nat.reduceLT, Nat.reduceEqDiff, Int.reduceNeg, Int.reduceLT, Int.reduceLE, Int.reduceEq, Int.reduceNe, Int.reduceAdd, Int.reduceSub, Int.reduceMul, Int.reduceToNat, Int.reduceBEq, Int.reduceBNe, hse, ht]
          · simp (config := { maxSteps := 10000000 }) only [run_drx, run_xd, run_xq, run_xg, run_xb, EV1, EV2, EV3, EV4, EV5, EV6, addT, istep, lenR_sl, lenR_ns, lenR_es, pickR, putD, bin1R, un1R, slcR, bnd, capsOf, fillP, S_plain, V_plain, V.cells, S_known, V_known, C.v, blk, setL, setH, eqS, eq1, cmpS, cmp1, isNil, popTo, killT, setT, leT, V.below, C.below, S_below, R.below, V.val, C.val, S_val, R.val, R.takes, vals, shows, List.any_cons, List.any_nil, unnamed, V.kill, V.names, C.names, S_names, R.names, List.set, List.replicate, ↓q_cond_t, ↓q_cond_f, if_true, if_false, reduceCtorEq, rvals, rvC, result, C_known, V.noL, C.noL, S_noL, R.noL, Option.map, true_and, and_true, ge_iff_le, gt_iff_lt, implies_true, q_ite_t, q_ite_f, beq_iff_eq, bne_iff_ne, q_ne, Nat.reduceAdd, Nat.reducePow, Int.reducePow, Nat.reduceMul, Nat.reduceSub, Nat.reduceLeDiff, Nat.reduceLT, Nat.reduceEqDiff, Int.reduceNeg, Int.reduceLT, Int.reduceLE, Int.reduceEq, Int.reduceNe, Int.reduceAdd, Int.reduceSub, Int.reduceMul, Int.reduceToNat, Int.reduceBEq, Int.reduceBNe, hse, hbl2, List.all_cons, List.all_nil, List.length_cons, List.length_nil]
          · simp (config := { maxSteps := 10000000 }) only [run_drx, run_xd, run_xq, run_xg, run_xb, EV1, EV2, EV3, EV4, EV5, EV6, addT, istep, lenR_sl, lenR_ns, lenR_es, pickR, putD, bin1R, un1R, slcR, bnd, capsOf, fillP, S_plain, V_plain, V.cells, S_known, V_known, C.v, blk, setL, setH, eqS, eq1, cmpS, cmp1, isNil, popTo, killT, setT, leT, V.below, C.below, S_below, R.below, V.val, C.val, S_val, R.val, R.takes, vals, shows, List.any_cons, List.any_nil, unnamed, V.kill, V.names, C.names, S_names, R.names, List.set, List.replicate, ↓q_cond_t, ↓q_cond_f, if_true, if_false, reduceCtorEq, rvals, rvC, result, C_known, V.noL, C.noL, S_noL, R.noL, Option.map, true_and, and_true, ge_iff_le, gt_iff_lt, implies_true, q_ite_t, q_ite_f, beq_iff_eq, bne_iff_ne, q_ne, Nat.reduceAdd, Nat.reducePow, Int.reducePow, Nat.reduceMul, Nat.reduceSub, Nat.reduceLeDiff, Nat.reduceLT, Nat.reduceEqDiff, Int.reduceNeg, Int.reduceLT, Int.reduceLE, Int.reduceEq, Int.reduceNe, Int.reduceAdd, Int.reduceSub, Int.reduceMul, Int.reduceToNat, Int.reduceBEq, Int.reduceBNe, List.all_append, List.all_cons, List.all_nil, iB, Ic]
      · have : i = F.length := by omega
        subst this
        rcases Nat.eq_zero_or_pos F.length with h0 | h0
        · have h0' := List.eq_nil_of_length_eq_zero h0
          subst h0'
          simp only [packV] at hN
          have hN0 : N = 0 := by omega
          subst hN0
          simp only [wbT, wbL, List.length_nil]
          have hp3 : preOf Ic h .ns = some [] := preOf_eq (.inl ⟨.inl rfl, rfl⟩)
          have hb0 : unpackB 0 [] 0 = true := by decide
          have hV0 : unpackV 0 [] 0 = [] := rfl
          have hu0 : u64 0 := by simp only [u64]; omega
          have ho0 : Pop.ones 64 0 = 0 := ones_zero 64
          refine run_sound (Tab.ok_Γ _) 300 _ _ _ _ ?_
          simp (config := { maxSteps := 10000000 }) only [run_drx, run_xd, run_xq, run_xg, run_xb, EV1, EV2, EV3, EV4, EV5, EV6, addT, istep, lenR_sl, lenR_ns, lenR_es, pickR, putD, bin1R, un1R, slcR, bnd, capsOf, fillP, S_plain, V_plain, V.cells, S_known, V_known, C.v, blk, setL, setH, eqS, eq1, cmpS, cmp1, isNil, popTo, killT, setT, leT, V.below, C.below, S_below, R.below, V.val, C.val, S_val, R.val, R.takes, vals, shows, List.any_cons, List.any_nil, unnamed, V.kill, V.names, C.names, S_names, R.names, List.set, List.replicate, ↓q_cond_t, ↓q_cond_f, if_true, if_false, reduceCtorEq, rvals, rvC, result, C_known, V.noL, C.noL, S_noL, R.noL, Option.map, true_and, and_true, ge_iff_le, gt_iff_lt, implies_true, q_ite_t, q_ite_f, beq_iff_eq, bne_iff_ne, q_ne, Nat.reduceAdd, Nat.reducePow, Int.reducePow, Nat.reduceMul, Nat.reduceSub, Nat.reduceLeDiff, Nat.reduceLT, Nat.reduceEqDiff, Int.reduceNeg, Int.reduceLT, Int.reduceLE, Int.reduceEq, Int.reduceNe, Int.reduceAdd, Int.reduceSub, Int.reduceMul, Int.reduceToNat, Int.reduceBEq, Int.reduceBNe, ↓hlen, ↓hkn, Int.lt_irrefl, List.length_nil, Int.natCast_zero, TP, unpack4G, hp3, hu0, hb0, hV0, wordsR, pairV, onesG, ho0, List.take_nil, sumOnes, Nat.zero_le, Int.toNat_zero]
          refine loop_rule (α := Unit) [] (fun _ => []) (fun _ => []) (fun _ => h) (fun _ => True) (fun _ => 0) () trivial .refl ?_
          rintro X2 _ _ _
          refine run_sound (Tab.ok_Γ _) 300 _ _ _ _ ?_
          simp (config := { maxSteps := 10000000 }) only [run_drx, run_xd, run_xq, run_xg, run_xb, EV1, EV2, EV3, EV4, EV5, EV6, addT, istep, lenR_sl, lenR_ns, lenR_es, pickR, putD, bin1R, un1R, slcR, bnd, capsOf, fillP, S_plain, V_plain, V.cells, S_known, V_known, C.v, blk, setL, setH, eqS, eq1, cmpS, cmp1, isNil, popTo, killT, setT, leT, V.below, C.below, S_below, R.below, V.val, C.val, S_val, R.val, R.takes, vals, shows, List.any_cons, List.any_nil, unnamed, V.kill, V.names, C.names, S_names, R.names, List.set, List.replicate, ↓q_cond_t, ↓q_cond_f, if_true, if_false, reduceCtorEq, rvals, rvC, result, C_known, V.noL, C.noL, S_noL, R.noL, Option.map, true_and, and_true, ge_iff_le, gt_iff_lt, implies_true, q_ite_t, q_ite_f, beq_iff_eq, bne_iff_ne, q_ne, Nat.reduceAdd, Nat.reducePow, Int.reducePow, Nat.reduceMul, Nat.reduceSub, Nat.reduceLeDiff, Nat.reduceLT, Nat.reduceEqDiff, Int.reduceNeg, Int.reduceLT, Int.reduceLE, Int.reduceEq, Int.reduceNe, Int.reduceAdd, Int.reduceSub, Int.reduceMul, Int.reduceToNat, Int.reduceBEq, Int.reduceBNe, ↓hlen, ↓hkn, List.length_nil, Int.natCast_zero, Int.lt_irrefl]
          refine swp_weak (Wk.keep 0 rfl rfl ?_ ?_ rfl) key
          · simp (config := { maxSteps := 10000000 }) only [run_drx, run_xd, run_xq, run_xg, run_xb, EV1, EV2, EV3, EV4, EV5, EV6, addT, istep, lenR_sl, lenR_ns, lenR_es, pickR, putD, bin1R, un1R, slcR, bnd, capsOf, fillP, S_plain, V_plain, V.cells, S_known, V_known, C.v, blk, setL, setH, eqS, eq1, cmpS, cmp1, isNil, popTo, killT, setT, leT, V.below, C.below, S_below, R.below, V.val, C.val, S_val, R.val, R.takes, vals, shows, List.any_cons, List.any_nil, unnamed, V.kill, V.names, C.names, S_names, R.names, List.set, List.replicate, ↓q_cond_t, ↓q_cond_f, if_true, if_false, reduceCtorEq, rvals, rvC, result, C_known, V.noL, C.noL, S_noL, R.noL, Option.map, true_and, and_true, ge_iff_le, gt_iff_lt, implies_true, q_ite_t, q_ite_f, beq_iff_eq, bne_iff_ne, q_ne, Nat.reduceAdd, Nat.reducePow, Int.reducePow, Nat.reduceMul, Nat.reduceSub, Nat.reduceLeDiff, Nat.reduceLT, Nat.reduceEqDiff, Int.reduceNeg, Int.reduceLT, Int.reduceLE, Int.reduceEq, Int.reduceNe, Int.reduceAdd, Int.reduceSub, Int.reduceMul, Int.reduceToNat, Int.reduceBEq, Int.reduceBNe, wbS]
          · simp (config := { maxSteps := 10000000 }) only [run_drx, run_xd, run_xq, run_xg, run_xb, EV1, EV2, EV3, EV4, EV5, EV6, addT, istep, lenR_sl, lenR_ns, lenR_es, pickR, putD, bin1R, un1R, slcR, bnd, capsOf, fillP, S_plain, V_plain, V.cells, S_known, V_known, C.v, blk, setL, setH, eqS, eq1, cmpS, cmp1, isNil, popTo, killT, setT, leT, V.below, C.below, S_below, R.below, V.val, C.val, S_val, R.val, R.takes, vals, shows, List.any_cons, List.any_nil, unnamed, V.kill, V.names, C.names, S_names, R.names, List.set, List.replicate, ↓q_cond_t, ↓q_cond_f, if_true, if_false, reduceCtorEq, rvals, rvC, result, C_known, V.noL, C.noL, S_noL, R.noL, Option.map, true_and, and_true, ge_iff_le, gt_iff_lt, implies_true, q_ite_t, q_ite_f, beq_iff_eq, bne_iff_ne, q_ne, Nat.reduceAdd, Nat.reducePow, Int.reducePow, Nat.reduceMul, Nat.reduceSub, Nat.reduceLeDiff, Nat.reduceLT, Nat.reduceEqDiff, Int.reduceNeg, Int.reduceLT, Int.reduceLE, Int.reduceEq, Int.reduceNe, Int.reduceAdd, Int.reduceSub, Int.reduceMul, Int.reduceToNat, Int.reduceBEq, Int.reduceBNe, wbS, hbl, hbl2, List.all_cons, List.all_nil, List.take_zero, List.length_nil]
        · obtain ⟨n', hn'⟩ : ∃ n', F.length = n' + 1 := ⟨F.length - 1, by omega⟩
          have hT : F.take (n' + 1) = F := by rw [← hn', List.take_length]
          have hlb : (F.map Fd.b).length = n' + 1 := by simp [hn']
          have hlv : (F.map Fd.v).length = n' + 1 := by simp [hn']
          have hpo : preOf Ic (h ++ [⟨.rw, arr Ic (F.map Fd.b), c1'⟩]) (.sl (.g h.length) 0 (n' + 1) c1') = some (F.map Fd.b) := by
            rw [← hlb]
            exact preOf_eq (.inr ⟨h.length, _, .rw, [], _, rfl, by rw [app_get0, List.append_nil]; rfl, fun _ => by decide⟩)
          simp only [Int.natCast_zero] at u1 u2
          obtain ⟨f0, F', hF'⟩ : ∃ f0 F', F.map Fd.v = f0 :: F' := by
            cases hx : F.map Fd.v with
            | nil => rw [hx] at hlv; simp at hlv
            | cons a b => exact ⟨a, b, rfl⟩
          have hl' : n' = F'.length := by rw [hF'] at hlv; simpa using hlv.symm
          subst hl'
          rw [hn'] at hlen hF64
          simp only [hn', wbT, wbL, hT]
          refine run_sound (Tab.ok_Γ _) 300 _ _ _ _ ?_
          simp (config := { maxSteps := 10000000 }) only [run_drx, run_xd, run_xq, run_xg, run_xb, EV1, EV2, EV3, EV4, EV5, EV6, addT, istep, lenR_sl, lenR_ns, lenR_es, pickR, putD, bin1R, un1R, slcR, bnd, capsOf, fillP, S_plain, V_plain, V.cells, S_known, V_known, C.v, blk, setL, setH, eqS, eq1, cmpS, cmp1, isNil, popTo, killT, setT, leT, V.below, C.below, S_below, R.below, V.val, C.val, S_val, R.val, R.takes, vals, shows, List.any_cons, List.any_nil, unnamed, V.kill, V.names, C.names, S_names, R.names, List.set, List.replicate, ↓q_cond_t, ↓q_cond_f, if_true, if_false, reduceCtorEq, rvals, rvC, result, C_known, V.noL, C.noL, S_noL, R.noL, Option.map, true_and, and_true, ge_iff_le, gt_iff_lt, implies_true, q_ite_t, q_ite_f, beq_iff_eq, bne_iff_ne, q_ne, Nat.reduceAdd, Nat.reducePow, Int.reducePow, Nat.reduceMul, Nat.reduceSub, Nat.reduceLeDiff, Nat.reduceLT, Nat.reduceEqDiff, Int.reduceNeg, Int.reduceLT, Int.reduceLE, Int.reduceEq, Int.reduceNe, Int.reduceAdd, Int.reduceSub, Int.reduceMul, Int.reduceToNat, Int.reduceBEq, Int.reduceBNe, ↓hlen, ↓hkn, Int.lt_irrefl, TP, unpack4G, hpo, R.lend, R.unlend, S_ren, C.ren, V.ren, Blk.ren, take_app, drop_app, Nat.not_lt_zero, Nat.lt_irrefl, Nat.add_sub_cancel_left, Nat.not_lt, Nat.le_add_right, ic_ren, uc_ren, hNu, hlb, u1, u2, hF', wordsR, pairV, onesG, hones, hbn, Int.toNat_natCast]
          refine ⟨by omega, fun c3 hc3 => ⟨hc, ?_⟩⟩
          refine loop_rule (α := Nat) [6, 15, 81, 82, 83, 84, 85, 86, 87, 88, 89, 90, 91, 92, 93, 94, 95, 96] (fun i => [(15, .s (.i .i64 (i : Int)))]) (fun _ => [⟨.rw, arr Ic (F.map Fd.b), c1'⟩, ⟨.rw, arr Uc (f0 :: F'), c3⟩]) (fun _ => h)
            (fun i => i ≤ F'.length + 1) (fun i => F'.length + 1 - i) 0 (Nat.zero_le _) (Wk.same rfl rfl ?_) ?_
          · simp (config := { maxSteps := 10000000 }) only [run_drx, run_xd, run_xq, run_xg, run_xb, EV1, EV2, EV3, EV4, EV5, EV6, addT, istep, lenR_sl, lenR_ns, lenR_es, pickR, putD, bin1R, un1R, slcR, bnd, capsOf, fillP, S_plain, V_plain, V.cells, S_known, V_known, C.v, blk, setL, setH, eqS, eq1, cmpS, cmp1, isNil, popTo, killT, setT, leT, V.below, C.below, S_below, R.below, V.val, C.val, S_val, R.val, R.takes, vals, shows, List.any_cons, List.any_nil, unnamed, V.kill, V.names, C.names, S_names, R.names, List.set, List.replicate, ↓q_cond_t, ↓q_cond_f, if_true, if_false, reduceCtorEq, rvals, rvC, result, C_known, V.noL, C.noL, S_noL, R.noL, Option.map, true_and, and_true, ge_iff_le, gt_iff_lt, implies_true, q_ite_t, q_ite_f, beq_iff_eq, bne_iff_ne, q_ne, Nat.reduceAdd, Nat.reducePow, Int.reducePow, Nat.reduceMul, Nat.reduceSub, Nat.reduceLeDiff, Nat.reduceLT, Nat.reduceEqDiff, Int.reduceNeg, Int.reduceLT, Int.reduceLE, Int.reduceEq, Int.reduceNe, Int.reduceAdd, Int.reduceSub, Int.reduceMul, Int.reduceToNat, Int.reduceBEq, Int.reduceBNe, Int.natCast_zero]
          · rintro X2 i hi2 IH2
            rcases Nat.lt_or_ge i (F'.length + 1) with hlt | hge2
            · have I := idx hlt hF64
              have hltF : i < F.length := by omega
              obtain ⟨j, cc, st, room, hse, hj, hd⟩ := Hs.at hltF
              rw [hn'] at hse
              have E2 : (arr Fd.c F)[i * 2 + 1]? = some (.i .u64 (nth Fd.z F i).v) := by rw [arr_get Fd.c_len hltF (by omega), nth_eq hltF]; rfl
              have E3 : (arr Uc (f0 :: F'))[i]? = some (.i .u64 (nth Fd.z F i).v) := by
                have := arr_get0 (f := Uc) Uc_len (l := F.map Fd.v) (i := i) (by rw [List.length_map]; exact hltF) (by omega)
                rw [Nat.mul_one] at this
                rw [← hF', this, nth_eq hltF, List.getElem_map]; rfl
              refine run_sound (Tab.ok_Γ _) 300 _ _ _ _ ?_
              simp (config := { maxSteps := 10000000 }) only [run_drx, run_xd, run_xq, run_xg, run_xb, EV1, EV2, EV3, EV4, EV5, EV6, addT, istep, lenR_sl, lenR_ns, lenR_es, pickR, putD, bin1R, un1R, slcR, bnd, capsOf, fillP, S_plain, V_plain, V.cells, S_known, V_known, C.v, blk, setL, setH, eqS, eq1, cmpS, cmp1, isNil, popTo, killT, setT, leT, V.below, C.below, S_below, R.below, V.val, C.val, S_val, R.val, R.takes, vals, shows, List.any_cons, List.any_nil, unnamed, V.kill, V.names, C.names, S_names, R.names, List.set, List.replicate, ↓q_cond_t, ↓q_cond_f, if_true, if_false, reduceCtorEq, rvals, rvC, result, C_known, V.noL, C.noL, S_noL, R.noL, Option.map, true_and, and_true, ge_iff_le, gt_iff_lt, implies_true, q_ite_t, q_ite_f, beq_iff_eq, bne_iff_ne, q_ne, Nat.reduceAdd, Nat.reducePow, Int.reducePow, Nat.reduceMul, Nat.reduceSub, Nat.reduceLeDiff, Nat.reduceLT, Nat.reduceEqDiff, Int.reduceNeg, Int.reduceLT, Int.reduceLE, Int.reduceEq, Int.reduceNe, Int.reduceAdd, Int.reduceSub, Int.reduceMul, Int.reduceToNat, Int.reduceBEq, Int.reduceBNe, ↓hlen, ↓hkn, I, hse, hj, hd, E2, E3]
              refine IH2 (i + 1) _ (by omega) (by omega) (Wk.keep 2 (by rfl) rfl ?_ ?_ ?_)
              · simp (config := { maxSteps := 10000000 }) only [run_drx, run_xd, run_xq, run_xg, run_xb, EV1, EV2, EV3, EV4, EV5, EV6, addT, istep, lenR_sl, lenR_ns, lenR_es, pickR, putD, bin1R, un1R, slcR, bnd, capsOf, fillP, S_plain, V_plain, V.cells, S_known, V_known, C.v, blk, setL, setH, eqS, eq1, cmpS, cmp1, isNil, popTo, killT, setT, leT, V.below, C.below, S_below, R.below, V.val, C.val, S_val, R.val, R.takes, vals, shows, List.any_cons, List.any_nil, unnamed, V.kill, V.names, C.names, S_names, R.names, List.set, List.replicate, ↓q_cond_t, ↓q_cond_f, if_true, if_false, reduceCtorEq, rvals, rvC, result, C_known, V.noL, C.noL, S_noL, R.noL, Option.map, true_and, and_true, ge_iff_le, gt_iff_lt, implies_true, q_ite_t, q_ite_f, beq_iff_eq, bne_iff_ne, q_ne, Nat.reduceAdd, Nat.reducePow, Int.reducePow, Nat.reduceMul, Nat.reduceSub, Nat.reduceLeDiff, Nat.reduceLT, Nat.reduceEqDiff, Int.reduceNeg, Int.reduceLT, Int.reduceLE, Int.reduceEq, Int.reduceNe, Int.reduceAdd, Int.reduceSub, Int.reduceMul, Int.reduceToNat, Int.reduceBEq, Int.reduceBNe, hse]
              · simp (config := { maxSteps := 10000000 }) only [run_drx, run_xd, run_xq, run_xg, run_xb, EV1, EV2, EV3, EV4, EV5, EV6, addT, istep, lenR_sl, lenR_ns, lenR_es, pickR, putD, bin1R, un1R, slcR, bnd, capsOf, fillP, S_plain, V_plain, V.cells, S_known, V_known, C.v, blk, setL, setH, eqS, eq1, cmpS, cmp1, isNil, popTo, killT, setT, leT, V.below, C.below, S_below, R.below, V.val, C.val, S_val, R.val, R.takes, vals, shows, List.any_cons, List.any_nil, unnamed, V.kill, V.names, C.names, S_names, R.names, List.set, List.replicate, ↓q_cond_t, ↓q_cond_f, if_true, if_false, reduceCtorEq, rvals, rvC, result, C_known, V.noL, C.noL, S_noL, R.noL, Option.map, true_and, and_true, ge_iff_le, gt_iff_lt, implies_true, q_ite_t, q_ite_f, beq_iff_eq, bne_iff_ne, q_ne, Nat.reduceAdd, Nat.reducePow, Int.reducePow, Nat.reduceMul, Nat.reduceSub, Nat.reduceLeDiff, Nat.reduceLT, Nat.reduceEqDiff, Int.reduceNeg, Int.reduceLT, Int.reduceLE, Int.reduceEq, Int.reduceNe, Int.reduceAdd, Int.reduceSub, Int.reduceMul, Int.reduceToNat, Int.reduceBEq, Int.reduceBNe, hse, hbl2, List.all_cons, List.all_nil, List.length_cons, List.length_nil]
              · simp [iB, uB]
            · have : i = F'.length + 1 := by omega
              subst this
              refine run_sound (Tab.ok_Γ _) 300 _ _ _ _ ?_
              simp (config := { maxSteps := 10000000 }) only [run_drx, run_xd, run_xq, run_xg, run_xb, EV1, EV2, EV3, EV4, EV5, EV6, addT, istep, lenR_sl, lenR_ns, lenR_es, pickR, putD, bin1R, un1R, slcR, bnd, capsOf, fillP, S_plain, V_plain, V.cells, S_known, V_known, C.v, blk, setL, setH, eqS, eq1, cmpS, cmp1, isNil, popTo, killT, setT, leT, V.below, C.below, S_below, R.below, V.val, C.val, S_val, R.val, R.takes, vals, shows, List.any_cons, List.any_nil, unnamed, V.kill, V.names, C.names, S_names, R.names, List.set, List.replicate, ↓q_cond_t, ↓q_cond_f, if_true, if_false, reduceCtorEq, rvals, rvC, result, C_known, V.noL, C.noL, S_noL, R.noL, Option.map, true_and, and_true, ge_iff_le, gt_iff_lt, implies_true, q_ite_t, q_ite_f, beq_iff_eq, bne_iff_ne, q_ne, Nat.reduceAdd, Nat.reducePow, Int.reducePow, Nat.reduceMul, Nat.reduceSub, Nat.reduceLeDiff, Nat.reduceLT, Nat.reduceEqDiff, Int.reduceNeg, Int.reduceLT, Int.reduceLE, Int.reduceEq, Int.reduceNe, Int.reduceAdd, Int.reduceSub, Int.reduceMul, Int.reduceToNat, Int.reduceBEq, Int.reduceBNe, ↓hlen, ↓hkn, Int.lt_irrefl]
              refine swp_weak (Wk.keep 0 rfl rfl ?_ ?_ rfl) key
              · simp (config := { maxSteps := 10000000 }) only [run_drx, run_xd, run_xq, run_xg, run_xb, EV1, EV2, EV3, EV4, EV5, EV6, addT, istep, lenR_sl, lenR_ns, lenR_es, pickR, putD, bin1R, un1R, slcR, bnd, capsOf, fillP, S_plain, V_plain, V.cells, S_known, V_known, C.v, blk, setL, setH, eqS, eq1, cmpS, cmp1, isNil, popTo, killT, setT, leT, V.below, C.below, S_below, R.below, V.val, C.val, S_val, R.val, R.takes, vals, shows, List.any_cons, List.any_nil, unnamed, V.kill, V.names, C.names, S_names, R.names, List.set, List.replicate, ↓q_cond_t, ↓q_cond_f, if_true, if_false, reduceCtorEq, rvals, rvC, result, C_known, V.noL, C.noL, S_noL, R.noL, Option.map, true_and, and_true, ge_iff_le, gt_iff_lt, implies_true, q_ite_t, q_ite_f, beq_iff_eq, bne_iff_ne, q_ne, Nat.reduceAdd, Nat.reducePow, Int.reducePow, Nat.reduceMul, Nat.reduceSub, Nat.reduceLeDiff, Nat.reduceLT, Nat.reduceEqDiff, Int.reduceNeg, Int.reduceLT, Int.reduceLE, Int.reduceEq, Int.reduceNe, Int.reduceAdd, Int.reduceSub, Int.reduceMul, Int.reduceToNat, Int.reduceBEq, Int.reduceBNe, wbS]
              · simp (config := { maxSteps := 10000000 }) only [run_drx, run_xd, run_xq, run_xg, run_xb, EV1, EV2, EV3, EV4, EV5, EV6, addT, istep, lenR_sl, lenR_ns, lenR_es, pickR, putD, bin1R, un1R, slcR, bnd, capsOf, fillP, S_plain, V_plain, V.cells, S_known, V_known, C.v, blk, setL, setH, eqS, eq1, cmpS, cmp1, isNil, popTo, killT, setT, leT, V.below, C.below, S_below, R.below, V.val, C.val, S_val, R.val, R.takes, vals, shows, List.any_cons, List.any_nil, unnamed, V.kill, V.names, C.names, S_names, R.names, List.set, List.replicate, ↓q_cond_t, ↓q_cond_f, if_true, if_false, reduceCtorEq, rvals, rvC, result, C_known, V.noL, C.noL, S_noL, R.noL, Option.map, true_and, and_true, ge_iff_le, gt_iff_lt, implies_true, q_ite_t, q_ite_f, beq_iff_eq, bne_iff_ne, q_ne, Nat.reduceAdd, Nat.reducePow, Int.reducePow, Nat.reduceMul, Nat.reduceSub, Nat.reduceLeDiff, Nat.reduceLT, Nat.reduceEqDiff, Int.reduceNeg, Int.reduceLT, Int.reduceLE, Int.reduceEq, Int.reduceNe, Int.reduceAdd, Int.reduceSub, Int.reduceMul, Int.reduceToNat, Int.reduceBEq, Int.reduceBNe, wbS, hbl, hbl2, List.all_cons, List.all_nil, List.take_zero, List.length_nil]

end Go.Proofs.YtmchhjjdlcmhoaaDoor

