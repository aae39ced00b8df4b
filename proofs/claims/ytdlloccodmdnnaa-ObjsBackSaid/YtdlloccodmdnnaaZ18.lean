/- Package objs: a word's fields; small functions. -/
import Derived.Test.YtdlloccodmdnnaaZ10
import Derived.Test.YtdlloccodmdnnaaZ17
/- Package objs: a word's fields; small functions. -/
namespace Go.Proofs.Ytdlloccodmdnnaa
open Go.D
set_option linter.all false
set_option maxRecDepth 100000
set_option maxHeartbeats 8000000

/-- What names no block beyond so many. -/
def V.fit (n m : Nat) (v : V) : V := cond (v.val n m) v (.s .u)
theorem fit_leT (n m : Nat) : ∀ t : List V, leT (t.map (V.fit n m)) t
  | [] => trivial
  | v :: t => ⟨by unfold V.fit; cases v.val n m; exact .inl rfl; exact .inr rfl, fit_leT n m t⟩
theorem fit_all (n m : Nat) (t : List V) : (t.map (V.fit n m)).all (V.val n m) = true := by
  simp only [List.all_map, List.all_eq_true]
  intro v _
  simp only [Function.comp, V.fit]
  cases h : v.val n m
  · rfl
  · exact h
/-- Shared blocks that nobody needs any more. -/
theorem Wk.dropH {n0 : Nat} {t : List V} {ls h X : List Blk} (hn : n0 ≤ h.length) (hc : clean h.length h = true) (hl : ls.all (fun B => vals h.length ls.length B.cells) = true) : Wk n0 ⟨t, ls, h ++ X⟩ ⟨t.map (V.fit h.length ls.length), ls, h⟩ :=
  Wk.keepH h.length app_take0 hn (fit_leT _ _ t) (fit_all _ _ t) hc hl

def ic (l : List Int) : List S := l.map (S.i .i64)
section
variable (l : List Int)
theorem ic_len : (ic l).length = l.length := by simp [ic]
theorem ic_all {p : S → Bool} (hp : ∀ x, p (.i .i64 x) = true) : (ic l).all p = true := by simp [ic, hp]
theorem ic_kept (k : List Nat) : (ic l).all (S.kept k) = true := ic_all l fun _ => rfl
theorem ic_vals (n k : Nat) : vals n k (ic l) = true := by unfold vals; exact ic_all l fun _ => rfl
theorem ic_ren (ρ : R → R) : (ic l).map (S.ren ρ) = ic l := by simp [ic, Function.comp_def, S.ren]
theorem ic_set (i : Nat) (x : Int) : (ic l).set i (.i .i64 x) = ic (l.set i x) := by simp [ic, List.map_set]
end
theorem ic_zeros (n : Nat) : zeros [.i .i64 0] n = ic (List.replicate n 0) := by
  induction n with
  | zero => rfl
  | succ n ih => simp only [zeros, ih, List.replicate_succ, ic, List.map_cons, List.cons_append, List.nil_append]
/-- So many numbers, then noughts. -/
def icP (l : List Int) (i : Nat) : List Int := (l.take i).map IntKind.i64.wrap ++ List.replicate (l.length - i) 0
theorem icP_len (l : List Int) (i : Nat) (h : i ≤ l.length) : (icP l i).length = l.length := by
  simp only [icP, List.length_append, List.length_map, List.length_take, List.length_replicate]; omega
theorem icP_0 (l : List Int) : icP l 0 = List.replicate l.length 0 := by simp [icP]
theorem icP_all (l : List Int) : icP l l.length = l.map IntKind.i64.wrap := by simp [icP]
theorem icP_set {l : List Int} {i : Nat} (h : i < l.length) : (ic (icP l i)).set i (.i .i64 (IntKind.i64.wrap (nth 0 l i))) = ic (icP l (i + 1)) := by
  rw [ic_set]
  congr 1
  unfold icP
  have hl : ((l.take i).map IntKind.i64.wrap).length = i := by simp; omega
  rw [List.set_append_right _ _ (by omega), hl, Nat.sub_self, show l.length - i = (l.length - (i + 1)) + 1 by omega, List.replicate_succ, List.set_cons_zero, List.take_succ_eq_append_getElem h, List.map_append, List.append_assoc, nth_eq h]
  rfl
theorem unpackV_len : ∀ (L : List Int) (w a : Int), (unpackV w L a).length = L.length
  | [], _, _ => rfl
  | b :: L, w, a => by simp only [unpackV, List.length_cons, unpackV_len L]
def ounV (w : Int) (L : List Int) : List Int := if unpackB w L 0 then (unpackV w L 0).map IntKind.i64.wrap else List.replicate L.length 0
noncomputable def ounpG : List V → List Blk → Res
  | [.s (.i .u64 w), .s s], h => match arrOf In.c h s with
    | some L => .ob (u64 w ∧ 0 < L.length ∧ L.length ≤ 64) (.ok (.tup [.s (.sl (.g h.length) 0 L.length L.length), .s (.b (unpackB w L 0))]) [] (h ++ [⟨.rw, ic (ounV w L), L.length⟩]))
    | none => .bad
  | _, _ => .bad
theorem ounp_leave {h : List Blk} {K : V → List Blk → Prop} {n : Nat} {l : List Int} {b : Bool} (hS : K (.tup [.s (.sl (.g h.length) 0 n n), .s (.b b)]) (h ++ [⟨.rw, ic l, n⟩])) :
    leaveB (.tup [.s (.sl (.l 0) 0 n n), .s (.b b)]) [⟨.rw, ic l, n⟩] h K false := by
  refine ⟨[0], by simp, rfl, ?_⟩
  simp only [getAll, List.getElem?_cons_zero]
  refine ⟨?_, ?_⟩
  · simp [ic_kept]
  · refine cast ?_ hS
    simp only [List.map_cons, List.map_nil, Blk.ren, ic_ren]
    rfl
theorem ounp_snd : Snd Try.prog 71 (FSpec.of ounpG) := snd_run To1_snd mixed Try.func71 dc71 200 fun args h K hc hS => by
  unfold ounpG at hS
  split at hS
  · split at hS
    · rename_i w s _ L e
      obtain ⟨⟨hu, hl0, hl⟩, hS⟩ := hS
      simp only [spec_ok, ounV] at hS
      have H1 := arrOf_some e
      obtain ⟨j, c', st, room, hse, hj, hd⟩ := H1.at (i := 0) hl0
      subst hse
      have hjl : j < h.length := (List.getElem?_eq_some_iff.1 hj).1
      have hai : arr In.c L = arr Ic L := rfl
      rw [hai] at hj
      have hdi := decI_arr L
      have ht : L.take L.length = L := List.take_length
      have h64 : L.length ≤ 9223372036854775807 := by omega
      have b1 : (0 : Int) ≤ (L.length : Int) := by omega
      have b2 : (L.length : Int) ≤ 1099511627776 := by omega
      have b3 : (8 : Int) * (L.length : Int) ≤ 281474976710656 := by omega
      obtain ⟨M, hM⟩ : ∃ M, unpackV w L 0 = M := ⟨_, rfl⟩
      have hMl : M.length = L.length := by rw [← hM, unpackV_len]
      cases hb : unpackB w L 0 with
      | false =>
        simp only [hb, Bool.false_eq_true, if_false] at hS
        simp (config := { maxSteps := 10000000 }) only [run_drx, run_xd, run_xq, run_xg, run_xb, EV1, EV2, EV3, EV4, EV5, EV6, addT, istep, lenR_sl, lenR_ns, lenR_es, pickR, putD, bin1R, un1R, slcR, bnd, capsOf, fillP, S_plain, V_plain, V.cells, S_known, V_known, C.v, blk, setL, setH, eqS, eq1, cmpS, cmp1, isNil, popTo, killT, setT, leT, V.below, C.below, S_below, R.below, V.val, C.val, S_val, R.val, R.takes, vals, shows, List.any_cons, List.any_nil, unnamed, V.kill, V.names, C.names, S_names, R.names, List.set, List.replicate, ↓q_cond_t, ↓q_cond_f, if_true, if_false, reduceCtorEq, rvals, rvC, result, C_known, V.noL, C.noL, S_noL, R.noL, Option.map, true_and, and_true, ge_iff_le, gt_iff_lt, implies_true, q_ite_t, q_ite_f, beq_iff_eq, bne_iff_ne, q_ne, Nat.reduceAdd, Nat.reducePow, Int.reducePow, Nat.reduceMul, Nat.reduceSub, Nat.reduceLeDiff, Nat.reduceLT, Nat.reduceEqDiff, Int.reduceNeg, Int.reduceLT, Int.reduceLE, Int.reduceEq, Int.reduceNe, Int.reduceAdd, Int.reduceSub, Int.reduceMul, Int.reduceToNat, Int.reduceBEq, Int.reduceBNe, df71, To1, unpackG, hj, hd, hu, hdi, ht, h64, Nat.le_refl, hb, b1, b2, b3, Int.le_refl, ic_zeros, ic_len, Int.toNat_natCast, List.length_replicate]
        rw [holds_loop]
        refine swp_loop fun X hX => ?_
        refine hX _ ?_
        refine run_sound (Tab.ok_Γ _) 100 _ _ _ _ ?_
        simp (config := { maxSteps := 10000000 }) only [run_drx, run_xd, run_xq, run_xg, run_xb, EV1, EV2, EV3, EV4, EV5, EV6, addT, istep, lenR_sl, lenR_ns, lenR_es, pickR, putD, bin1R, un1R, slcR, bnd, capsOf, fillP, S_plain, V_plain, V.cells, S_known, V_known, C.v, blk, setL, setH, eqS, eq1, cmpS, cmp1, isNil, popTo, killT, setT, leT, V.below, C.below, S_below, R.below, V.val, C.val, S_val, R.val, R.takes, vals, shows, List.any_cons, List.any_nil, unnamed, V.kill, V.names, C.names, S_names, R.names, List.set, List.replicate, ↓q_cond_t, ↓q_cond_f, if_true, if_false, reduceCtorEq, rvals, rvC, result, C_known, V.noL, C.noL, S_noL, R.noL, Option.map, true_and, and_true, ge_iff_le, gt_iff_lt, implies_true, q_ite_t, q_ite_f, beq_iff_eq, bne_iff_ne, q_ne, Nat.reduceAdd, Nat.reducePow, Int.reducePow, Nat.reduceMul, Nat.reduceSub, Nat.reduceLeDiff, Nat.reduceLT, Nat.reduceEqDiff, Int.reduceNeg, Int.reduceLT, Int.reduceLE, Int.reduceEq, Int.reduceNe, Int.reduceAdd, Int.reduceSub, Int.reduceMul, Int.reduceToNat, Int.reduceBEq, Int.reduceBNe, Int.lt_irrefl]
        exact ounp_leave hS
      | true =>
        simp only [hb, if_true, hM] at hS
        cases M with
        | nil => simp at hMl; omega
        | cons y M =>
          simp only [List.length_cons] at hMl
          simp (config := { maxSteps := 10000000 }) only [run_drx, run_xd, run_xq, run_xg, run_xb, EV1, EV2, EV3, EV4, EV5, EV6, addT, istep, lenR_sl, lenR_ns, lenR_es, pickR, putD, bin1R, un1R, slcR, bnd, capsOf, fillP, S_plain, V_plain, V.cells, S_known, V_known, C.v, blk, setL, setH, eqS, eq1, cmpS, cmp1, isNil, popTo, killT, setT, leT, V.below, C.below, S_below, R.below, V.val, C.val, S_val, R.val, R.takes, vals, shows, List.any_cons, List.any_nil, unnamed, V.kill, V.names, C.names, S_names, R.names, List.set, List.replicate, ↓q_cond_t, ↓q_cond_f, if_true, if_false, reduceCtorEq, rvals, rvC, result, C_known, V.noL, C.noL, S_noL, R.noL, Option.map, true_and, and_true, ge_iff_le, gt_iff_lt, implies_true, q_ite_t, q_ite_f, beq_iff_eq, bne_iff_ne, q_ne, Nat.reduceAdd, Nat.reducePow, Int.reducePow, Nat.reduceMul, Nat.reduceSub, Nat.reduceLeDiff, Nat.reduceLT, Nat.reduceEqDiff, Int.reduceNeg, Int.reduceLT, Int.reduceLE, Int.reduceEq, Int.reduceNe, Int.reduceAdd, Int.reduceSub, Int.reduceMul, Int.reduceToNat, Int.reduceBEq, Int.reduceBNe, df71, To1, unpackG, hj, hd, hu, hdi, ht, h64, Nat.le_refl, hb, hM, wordsR, pairV, b1, b2, b3, Int.le_refl, ic_zeros, ic_len, Int.toNat_natCast, List.length_replicate]
          intro c hcc
          obtain ⟨Z, hZ⟩ : ∃ Z, y :: M = Z := ⟨_, rfl⟩
          have hZl : Z.length = L.length := by rw [← hZ]; simpa using hMl
          rw [hZ] at hS ⊢
          rw [hMl]
          refine loop_rule (α := Nat) [9, 10, 22, 23, 24, 25, 26, 27, 28, 29, 30, 31, 32] (fun i => [(22, .s (.i .i64 i))]) (fun i => [⟨.rw, ic (icP Z i), L.length⟩]) (fun _ => h ++ [⟨.rw, arr Uc Z, c⟩]) (fun i => i ≤ L.length) (fun i => L.length - i) 0 (Nat.zero_le _) ?_ ?_
          · rw [icP_0, hZl]
            refine Wk.same rfl rfl ?_
            simp (config := { maxSteps := 10000000 }) only [run_drx, run_xd, run_xq, run_xg, run_xb, EV1, EV2, EV3, EV4, EV5, EV6, addT, istep, lenR_sl, lenR_ns, lenR_es, pickR, putD, bin1R, un1R, slcR, bnd, capsOf, fillP, S_plain, V_plain, V.cells, S_known, V_known, C.v, blk, setL, setH, eqS, eq1, cmpS, cmp1, isNil, popTo, killT, setT, leT, V.below, C.below, S_below, R.below, V.val, C.val, S_val, R.val, R.takes, vals, shows, List.any_cons, List.any_nil, unnamed, V.kill, V.names, C.names, S_names, R.names, List.set, List.replicate, ↓q_cond_t, ↓q_cond_f, if_true, if_false, reduceCtorEq, rvals, rvC, result, C_known, V.noL, C.noL, S_noL, R.noL, Option.map, true_and, and_true, ge_iff_le, gt_iff_lt, implies_true, q_ite_t, q_ite_f, beq_iff_eq, bne_iff_ne, q_ne, Nat.reduceAdd, Nat.reducePow, Int.reducePow, Nat.reduceMul, Nat.reduceSub, Nat.reduceLeDiff, Nat.reduceLT, Nat.reduceEqDiff, Int.reduceNeg, Int.reduceLT, Int.reduceLE, Int.reduceEq, Int.reduceNe, Int.reduceAdd, Int.reduceSub, Int.reduceMul, Int.reduceToNat, Int.reduceBEq, Int.reduceBNe, Int.natCast_zero]
          · intro X i hi IH
            rcases Nat.lt_or_ge i L.length with g1 | g1
            · obtain ⟨d1, d2, d3, d4⟩ := idx g1 h64
              have g2 : i < Z.length := by omega
              have g0 : (arr Uc Z)[i]? = some (.i .u64 (nth 0 Z i)) := by
                have := arr_get0 Uc_len g2 (by omega)
                rw [Nat.mul_one] at this
                rw [this, nth_eq g2]; rfl
              have g3 := icP_set g2
              have g4 : i + 1 ≤ (ic (icP Z i)).length := by rw [ic_len, icP_len Z i (by omega)]; omega
              refine run_sound (Tab.ok_Γ _) 200 _ _ _ _ ?_
              simp (config := { maxSteps := 10000000 }) only [run_drx, run_xd, run_xq, run_xg, run_xb, EV1, EV2, EV3, EV4, EV5, EV6, addT, istep, lenR_sl, lenR_ns, lenR_es, pickR, putD, bin1R, un1R, slcR, bnd, capsOf, fillP, S_plain, V_plain, V.cells, S_known, V_known, C.v, blk, setL, setH, eqS, eq1, cmpS, cmp1, isNil, popTo, killT, setT, leT, V.below, C.below, S_below, R.below, V.val, C.val, S_val, R.val, R.takes, vals, shows, List.any_cons, List.any_nil, unnamed, V.kill, V.names, C.names, S_names, R.names, List.set, List.replicate, ↓q_cond_t, ↓q_cond_f, if_true, if_false, reduceCtorEq, rvals, rvC, result, C_known, V.noL, C.noL, S_noL, R.noL, Option.map, true_and, and_true, ge_iff_le, gt_iff_lt, implies_true, q_ite_t, q_ite_f, beq_iff_eq, bne_iff_ne, q_ne, Nat.reduceAdd, Nat.reducePow, Int.reducePow, Nat.reduceMul, Nat.reduceSub, Nat.reduceLeDiff, Nat.reduceLT, Nat.reduceEqDiff, Int.reduceNeg, Int.reduceLT, Int.reduceLE, Int.reduceEq, Int.reduceNe, Int.reduceAdd, Int.reduceSub, Int.reduceMul, Int.reduceToNat, Int.reduceBEq, Int.reduceBNe, d1, d2, d3, d4, g0, g3, g4, app_get0, Int.toNat_natCast, put]
              exact IH (i + 1) _ (by omega) (by omega) (Wk.same rfl rfl (by simp (config := { maxSteps := 10000000 }) only [run_drx, run_xd, run_xq, run_xg, run_xb, EV1, EV2, EV3, EV4, EV5, EV6, addT, istep, lenR_sl, lenR_ns, lenR_es, pickR, putD, bin1R, un1R, slcR, bnd, capsOf, fillP, S_plain, V_plain, V.cells, S_known, V_known, C.v, blk, setL, setH, eqS, eq1, cmpS, cmp1, isNil, popTo, killT, setT, leT, V.below, C.below, S_below, R.below, V.val, C.val, S_val, R.val, R.takes, vals, shows, List.any_cons, List.any_nil, unnamed, V.kill, V.names, C.names, S_names, R.names, List.set, List.replicate, ↓q_cond_t, ↓q_cond_f, if_true, if_false, reduceCtorEq, rvals, rvC, result, C_known, V.noL, C.noL, S_noL, R.noL, Option.map, true_and, and_true, ge_iff_le, gt_iff_lt, implies_true, q_ite_t, q_ite_f, beq_iff_eq, bne_iff_ne, q_ne, Nat.reduceAdd, Nat.reducePow, Int.reducePow, Nat.reduceMul, Nat.reduceSub, Nat.reduceLeDiff, Nat.reduceLT, Nat.reduceEqDiff, Int.reduceNeg, Int.reduceLT, Int.reduceLE, Int.reduceEq, Int.reduceNe, Int.reduceAdd, Int.reduceSub, Int.reduceMul, Int.reduceToNat, Int.reduceBEq, Int.reduceBNe]))
            · have hiL : i = L.length := by omega
              subst hiL
              have g2 : ¬ ((L.length : Int) < L.length) := Int.lt_irrefl _
              have g3 : icP Z L.length = Z.map IntKind.i64.wrap := by rw [← hZl, icP_all]
              rw [g3]
              refine swp_weak (Wk.dropH (Nat.le_refl _) hc ?_) ?_
              · simp only [List.all_cons, List.all_nil, Bool.and_true, ic_vals]
              · simp (config := { maxSteps := 10000000 }) only [run_drx, run_xd, run_xq, run_xg, run_xb, EV1, EV2, EV3, EV4, EV5, EV6, addT, istep, lenR_sl, lenR_ns, lenR_es, pickR, putD, bin1R, un1R, slcR, bnd, capsOf, fillP, S_plain, V_plain, V.cells, S_known, V_known, C.v, blk, setL, setH, eqS, eq1, cmpS, cmp1, isNil, popTo, killT, setT, leT, V.below, C.below, S_below, R.below, V.val, C.val, S_val, R.val, R.takes, vals, shows, List.any_cons, List.any_nil, unnamed, V.kill, V.names, C.names, S_names, R.names, List.set, List.replicate, ↓q_cond_t, ↓q_cond_f, if_true, if_false, reduceCtorEq, rvals, rvC, result, C_known, V.noL, C.noL, S_noL, R.noL, Option.map, true_and, and_true, ge_iff_le, gt_iff_lt, implies_true, q_ite_t, q_ite_f, beq_iff_eq, bne_iff_ne, q_ne, Nat.reduceAdd, Nat.reducePow, Int.reducePow, Nat.reduceMul, Nat.reduceSub, Nat.reduceLeDiff, Nat.reduceLT, Nat.reduceEqDiff, Int.reduceNeg, Int.reduceLT, Int.reduceLE, Int.reduceEq, Int.reduceNe, Int.reduceAdd, Int.reduceSub, Int.reduceMul, Int.reduceToNat, Int.reduceBEq, Int.reduceBNe, V.fit, S_val, R.val, hjl, Nat.lt_irrefl]
                refine run_sound (Tab.ok_Γ _) 200 _ _ _ _ ?_
                simp (config := { maxSteps := 10000000 }) only [run_drx, run_xd, run_xq, run_xg, run_xb, EV1, EV2, EV3, EV4, EV5, EV6, addT, istep, lenR_sl, lenR_ns, lenR_es, pickR, putD, bin1R, un1R, slcR, bnd, capsOf, fillP, S_plain, V_plain, V.cells, S_known, V_known, C.v, blk, setL, setH, eqS, eq1, cmpS, cmp1, isNil, popTo, killT, setT, leT, V.below, C.below, S_below, R.below, V.val, C.val, S_val, R.val, R.takes, vals, shows, List.any_cons, List.any_nil, unnamed, V.kill, V.names, C.names, S_names, R.names, List.set, List.replicate, ↓q_cond_t, ↓q_cond_f, if_true, if_false, reduceCtorEq, rvals, rvC, result, C_known, V.noL, C.noL, S_noL, R.noL, Option.map, true_and, and_true, ge_iff_le, gt_iff_lt, implies_true, q_ite_t, q_ite_f, beq_iff_eq, bne_iff_ne, q_ne, Nat.reduceAdd, Nat.reducePow, Int.reducePow, Nat.reduceMul, Nat.reduceSub, Nat.reduceLeDiff, Nat.reduceLT, Nat.reduceEqDiff, Int.reduceNeg, Int.reduceLT, Int.reduceLE, Int.reduceEq, Int.reduceNe, Int.reduceAdd, Int.reduceSub, Int.reduceMul, Int.reduceToNat, Int.reduceBEq, Int.reduceBNe, g2]
                exact ounp_leave hS
    · exact hS.elim
  · exact hS.elim

def fI (b : Bool) : Int := if b then 1 else 0
def flagG : List V → List Blk → Res
  | [.s (.b q)], h => .ok (.agg [.i .i64 1, .i .i64 (fI q)]) [] h
  | _, _ => .bad
theorem flag_snd : Snd Try.prog 113 (FSpec.of flagG) := snd_run (noT_snd _) mixed Try.func113 dc113 100 fun args h K hc hS => by
  unfold flagG at hS
  split at hS
  · rename_i q
    simp only [spec_ok, fI] at hS
    cases q
    · simp (config := { maxSteps := 10000000 }) only [run_drx, run_xd, run_xq, run_xg, run_xb, EV1, EV2, EV3, EV4, EV5, EV6, addT, istep, lenR_sl, lenR_ns, lenR_es, pickR, putD, bin1R, un1R, slcR, bnd, capsOf, fillP, S_plain, V_plain, V.cells, S_known, V_known, C.v, blk, setL, setH, eqS, eq1, cmpS, cmp1, isNil, popTo, killT, setT, leT, V.below, C.below, S_below, R.below, V.val, C.val, S_val, R.val, R.takes, vals, shows, List.any_cons, List.any_nil, unnamed, V.kill, V.names, C.names, S_names, R.names, List.set, List.replicate, ↓q_cond_t, ↓q_cond_f, if_true, if_false, reduceCtorEq, rvals, rvC, result, C_known, V.noL, C.noL, S_noL, R.noL, Option.map, true_and, and_true, ge_iff_le, gt_iff_lt, implies_true, q_ite_t, q_ite_f, beq_iff_eq, bne_iff_ne, q_ne, Nat.reduceAdd, Nat.reducePow, Int.reducePow, Nat.reduceMul, Nat.reduceSub, Nat.reduceLeDiff, Nat.reduceLT, Nat.reduceEqDiff, Int.reduceNeg, Int.reduceLT, Int.reduceLE, Int.reduceEq, Int.reduceNe, Int.reduceAdd, Int.reduceSub, Int.reduceMul, Int.reduceToNat, Int.reduceBEq, Int.reduceBNe, df113, put, fillP, sub, List.take_succ_cons, List.take_zero, List.drop_zero]
      exact hS
    · simp (config := { maxSteps := 10000000 }) only [run_drx, run_xd, run_xq, run_xg, run_xb, EV1, EV2, EV3, EV4, EV5, EV6, addT, istep, lenR_sl, lenR_ns, lenR_es, pickR, putD, bin1R, un1R, slcR, bnd, capsOf, fillP, S_plain, V_plain, V.cells, S_known, V_known, C.v, blk, setL, setH, eqS, eq1, cmpS, cmp1, isNil, popTo, killT, setT, leT, V.below, C.below, S_below, R.below, V.val, C.val, S_val, R.val, R.takes, vals, shows, List.any_cons, List.any_nil, unnamed, V.kill, V.names, C.names, S_names, R.names, List.set, List.replicate, ↓q_cond_t, ↓q_cond_f, if_true, if_false, reduceCtorEq, rvals, rvC, result, C_known, V.noL, C.noL, S_noL, R.noL, Option.map, true_and, and_true, ge_iff_le, gt_iff_lt, implies_true, q_ite_t, q_ite_f, beq_iff_eq, bne_iff_ne, q_ne, Nat.reduceAdd, Nat.reducePow, Int.reducePow, Nat.reduceMul, Nat.reduceSub, Nat.reduceLeDiff, Nat.reduceLT, Nat.reduceEqDiff, Int.reduceNeg, Int.reduceLT, Int.reduceLE, Int.reduceEq, Int.reduceNe, Int.reduceAdd, Int.reduceSub, Int.reduceMul, Int.reduceToNat, Int.reduceBEq, Int.reduceBNe, df113, put, fillP, sub, List.take_succ_cons, List.take_zero, List.drop_zero]
      exact hS
  · exact hS.elim
def inO (n m : Int) : Bool := decide (0 ≤ n) && decide (n ≤ m)
def oinG : List V → List Blk → Res
  | [.s (.i .i64 n), .s (.i .i64 m)], h => .ok (.s (.b (inO n m))) [] h
  | _, _ => .bad
theorem oin_snd : Snd Try.prog 112 (FSpec.of oinG) := snd_run (noT_snd _) mixed Try.func112 dc112 100 fun args h K hc hS => by
  unfold oinG at hS
  split at hS
  · simp only [spec_ok, inO] at hS
    simp (config := { maxSteps := 10000000 }) only [run_drx, run_xd, run_xq, run_xg, run_xb, EV1, EV2, EV3, EV4, EV5, EV6, addT, istep, lenR_sl, lenR_ns, lenR_es, pickR, putD, bin1R, un1R, slcR, bnd, capsOf, fillP, S_plain, V_plain, V.cells, S_known, V_known, C.v, blk, setL, setH, eqS, eq1, cmpS, cmp1, isNil, popTo, killT, setT, leT, V.below, C.below, S_below, R.below, V.val, C.val, S_val, R.val, R.takes, vals, shows, List.any_cons, List.any_nil, unnamed, V.kill, V.names, C.names, S_names, R.names, List.set, List.replicate, ↓q_cond_t, ↓q_cond_f, if_true, if_false, reduceCtorEq, rvals, rvC, result, C_known, V.noL, C.noL, S_noL, R.noL, Option.map, true_and, and_true, ge_iff_le, gt_iff_lt, implies_true, q_ite_t, q_ite_f, beq_iff_eq, bne_iff_ne, q_ne, Nat.reduceAdd, Nat.reducePow, Int.reducePow, Nat.reduceMul, Nat.reduceSub, Nat.reduceLeDiff, Nat.reduceLT, Nat.reduceEqDiff, Int.reduceNeg, Int.reduceLT, Int.reduceLE, Int.reduceEq, Int.reduceNe, Int.reduceAdd, Int.reduceSub, Int.reduceMul, Int.reduceToNat, Int.reduceBEq, Int.reduceBNe, df112]
    exact hS
  · exact hS.elim
def in3 (n a b : Int) : Bool := decide (a ≤ n) && decide (n ≤ b)
def rinG : List V → List Blk → Res
  | [.s (.i .i64 n), .s (.i .i64 a), .s (.i .i64 b)], h => .ok (.s (.b (in3 n a b))) [] h
  | _, _ => .bad
theorem rin_snd : Snd Try.prog 121 (FSpec.of rinG) := snd_run (noT_snd _) mixed Try.func121 dc121 100 fun args h K hc hS => by
  unfold rinG at hS
  split at hS
  · simp only [spec_ok, in3] at hS
    simp (config := { maxSteps := 10000000 }) only [run_drx, run_xd, run_xq, run_xg, run_xb, EV1, EV2, EV3, EV4, EV5, EV6, addT, istep, lenR_sl, lenR_ns, lenR_es, pickR, putD, bin1R, un1R, slcR, bnd, capsOf, fillP, S_plain, V_plain, V.cells, S_known, V_known, C.v, blk, setL, setH, eqS, eq1, cmpS, cmp1, isNil, popTo, killT, setT, leT, V.below, C.below, S_below, R.below, V.val, C.val, S_val, R.val, R.takes, vals, shows, List.any_cons, List.any_nil, unnamed, V.kill, V.names, C.names, S_names, R.names, List.set, List.replicate, ↓q_cond_t, ↓q_cond_f, if_true, if_false, reduceCtorEq, rvals, rvC, result, C_known, V.noL, C.noL, S_noL, R.noL, Option.map, true_and, and_true, ge_iff_le, gt_iff_lt, implies_true, q_ite_t, q_ite_f, beq_iff_eq, bne_iff_ne, q_ne, Nat.reduceAdd, Nat.reducePow, Int.reducePow, Nat.reduceMul, Nat.reduceSub, Nat.reduceLeDiff, Nat.reduceLT, Nat.reduceEqDiff, Int.reduceNeg, Int.reduceLT, Int.reduceLE, Int.reduceEq, Int.reduceNe, Int.reduceAdd, Int.reduceSub, Int.reduceMul, Int.reduceToNat, Int.reduceBEq, Int.reduceBNe, df121]
    exact hS
  · exact hS.elim
theorem in3_iff {n a b : Int} : in3 n a b = true ↔ a ≤ n ∧ n ≤ b := by simp [in3]

/-- Is there an object of so many words? -/
def otB (m : M) (a n : Int) : Bool := decide (1024 ≤ a ∧ a % n = 0 ∧ a + n ≤ m.w.length)
theorem otB_iff {m : M} {a n : Int} : otB m a n = true ↔ 1024 ≤ a ∧ a % n = 0 ∧ a + n ≤ m.w.length := by simp [otB]
def otM (b : Nat) (m : M) (st : M → List Blk) : List V → Res
  | [.s (.i .i64 a), .s (.i .i64 n)] => .ob (0 < n ∧ n ≤ 64) (.ok (.s (.b (otB m a n))) [] (st m))
  | _ => .bad
noncomputable def otG := memF otM
noncomputable def To2 : Tab := addT 111 wordsG (addT 110 thereG (noT))
theorem To2_snd : To2.Snd Try.prog := addT_snd ok111 mwords_snd (addT_snd ok110 rthere_snd ((noT_snd _)))
theorem ot_snd : Snd Try.prog 69 (FSpec.of otG) := snd_run To2_snd mixed Try.func69 dc69 100 fun args h K hc hS => by
  obtain ⟨a, b, m, rest, rfl, H, hS1⟩ := memF_spec hS
  clear hS
  have hS := hS1
  clear hS1
  unfold otM at hS
  split at hS
  · rename_i a n
    obtain ⟨hn, hS⟩ := hS
    simp only [spec_ok, setM_self H] at hS
    have hl := m.l
    have w1 : IntKind.i64.wrap ((m.w.length : Int) - n) = m.w.length - n := wrap64 (by omega) (by omega)
    have hn0 : n ≠ 0 := by omega
    by_cases c1 : 1024 ≤ a
    · have ht : a.tmod n = a % n := Int.tmod_eq_emod_of_nonneg (by omega)
      by_cases c2 : a % n = 0
      · by_cases c3 : a ≤ m.w.length - n
        · rw [otB_iff.2 ⟨c1, c2, by omega⟩] at hS
          simp (config := { maxSteps := 10000000 }) only [run_drx, run_xd, run_xq, run_xg, run_xb, EV1, EV2, EV3, EV4, EV5, EV6, addT, istep, lenR_sl, lenR_ns, lenR_es, pickR, putD, bin1R, un1R, slcR, bnd, capsOf, fillP, S_plain, V_plain, V.cells, S_known, V_known, C.v, blk, setL, setH, eqS, eq1, cmpS, cmp1, isNil, popTo, killT, setT, leT, V.below, C.below, S_below, R.below, V.val, C.val, S_val, R.val, R.takes, vals, shows, List.any_cons, List.any_nil, unnamed, V.kill, V.names, C.names, S_names, R.names, List.set, List.replicate, ↓q_cond_t, ↓q_cond_f, if_true, if_false, reduceCtorEq, rvals, rvC, result, C_known, V.noL, C.noL, S_noL, R.noL, Option.map, true_and, and_true, ge_iff_le, gt_iff_lt, implies_true, q_ite_t, q_ite_f, beq_iff_eq, bne_iff_ne, q_ne, Nat.reduceAdd, Nat.reducePow, Int.reducePow, Nat.reduceMul, Nat.reduceSub, Nat.reduceLeDiff, Nat.reduceLT, Nat.reduceEqDiff, Int.reduceNeg, Int.reduceLT, Int.reduceLE, Int.reduceEq, Int.reduceNe, Int.reduceAdd, Int.reduceSub, Int.reduceMul, Int.reduceToNat, Int.reduceBEq, Int.reduceBNe, df69, To2, wordsG, memF_eq H, wordsM, setM_self H, c1, hn0, ht, c2, w1, c3]
          exact hS
        · have : otB m a n = false := by simp only [otB, decide_eq_false_iff_not]; omega
          rw [this] at hS
          simp (config := { maxSteps := 10000000 }) only [run_drx, run_xd, run_xq, run_xg, run_xb, EV1, EV2, EV3, EV4, EV5, EV6, addT, istep, lenR_sl, lenR_ns, lenR_es, pickR, putD, bin1R, un1R, slcR, bnd, capsOf, fillP, S_plain, V_plain, V.cells, S_known, V_known, C.v, blk, setL, setH, eqS, eq1, cmpS, cmp1, isNil, popTo, killT, setT, leT, V.below, C.below, S_below, R.below, V.val, C.val, S_val, R.val, R.takes, vals, shows, List.any_cons, List.any_nil, unnamed, V.kill, V.names, C.names, S_names, R.names, List.set, List.replicate, ↓q_cond_t, ↓q_cond_f, if_true, if_false, reduceCtorEq, rvals, rvC, result, C_known, V.noL, C.noL, S_noL, R.noL, Option.map, true_and, and_true, ge_iff_le, gt_iff_lt, implies_true, q_ite_t, q_ite_f, beq_iff_eq, bne_iff_ne, q_ne, Nat.reduceAdd, Nat.reducePow, Int.reducePow, Nat.reduceMul, Nat.reduceSub, Nat.reduceLeDiff, Nat.reduceLT, Nat.reduceEqDiff, Int.reduceNeg, Int.reduceLT, Int.reduceLE, Int.reduceEq, Int.reduceNe, Int.reduceAdd, Int.reduceSub, Int.reduceMul, Int.reduceToNat, Int.reduceBEq, Int.reduceBNe, df69, To2, wordsG, memF_eq H, wordsM, setM_self H, c1, hn0, ht, c2, w1, c3]
          exact hS
      · have : otB m a n = false := by simp only [otB, decide_eq_false_iff_not]; omega
        rw [this] at hS
        have c2' : (a % n == 0) = false := by simpa using c2
        simp (config := { maxSteps := 10000000 }) only [run_drx, run_xd, run_xq, run_xg, run_xb, EV1, EV2, EV3, EV4, EV5, EV6, addT, istep, lenR_sl, lenR_ns, lenR_es, pickR, putD, bin1R, un1R, slcR, bnd, capsOf, fillP, S_plain, V_plain, V.cells, S_known, V_known, C.v, blk, setL, setH, eqS, eq1, cmpS, cmp1, isNil, popTo, killT, setT, leT, V.below, C.below, S_below, R.below, V.val, C.val, S_val, R.val, R.takes, vals, shows, List.any_cons, List.any_nil, unnamed, V.kill, V.names, C.names, S_names, R.names, List.set, List.replicate, ↓q_cond_t, ↓q_cond_f, if_true, if_false, reduceCtorEq, rvals, rvC, result, C_known, V.noL, C.noL, S_noL, R.noL, Option.map, true_and, and_true, ge_iff_le, gt_iff_lt, implies_true, q_ite_t, q_ite_f, beq_iff_eq, bne_iff_ne, q_ne, Nat.reduceAdd, Nat.reducePow, Int.reducePow, Nat.reduceMul, Nat.reduceSub, Nat.reduceLeDiff, Nat.reduceLT, Nat.reduceEqDiff, Int.reduceNeg, Int.reduceLT, Int.reduceLE, Int.reduceEq, Int.reduceNe, Int.reduceAdd, Int.reduceSub, Int.reduceMul, Int.reduceToNat, Int.reduceBEq, Int.reduceBNe, df69, To2, wordsG, memF_eq H, wordsM, setM_self H, c1, hn0, ht, c2', w1]
        exact hS
    · have : otB m a n = false := by simp only [otB, decide_eq_false_iff_not]; omega
      rw [this] at hS
      simp (config := { maxSteps := 10000000 }) only [run_drx, run_xd, run_xq, run_xg, run_xb, EV1, EV2, EV3, EV4, EV5, EV6, addT, istep, lenR_sl, lenR_ns, lenR_es, pickR, putD, bin1R, un1R, slcR, bnd, capsOf, fillP, S_plain, V_plain, V.cells, S_known, V_known, C.v, blk, setL, setH, eqS, eq1, cmpS, cmp1, isNil, popTo, killT, setT, leT, V.below, C.below, S_below, R.below, V.val, C.val, S_val, R.val, R.takes, vals, shows, List.any_cons, List.any_nil, unnamed, V.kill, V.names, C.names, S_names, R.names, List.set, List.replicate, ↓q_cond_t, ↓q_cond_f, if_true, if_false, reduceCtorEq, rvals, rvC, result, C_known, V.noL, C.noL, S_noL, R.noL, Option.map, true_and, and_true, ge_iff_le, gt_iff_lt, implies_true, q_ite_t, q_ite_f, beq_iff_eq, bne_iff_ne, q_ne, Nat.reduceAdd, Nat.reducePow, Int.reducePow, Nat.reduceMul, Nat.reduceSub, Nat.reduceLeDiff, Nat.reduceLT, Nat.reduceEqDiff, Int.reduceNeg, Int.reduceLT, Int.reduceLE, Int.reduceEq, Int.reduceNe, Int.reduceAdd, Int.reduceSub, Int.reduceMul, Int.reduceToNat, Int.reduceBEq, Int.reduceBNe, df69, To2, wordsG, memF_eq H, wordsM, setM_self H, c1, hn0]
      exact hS
  · exact hS.elim
theorem rot_snd : Snd Try.prog 102 (FSpec.of otG) := snd_run To2_snd mixed Try.func102 dc102 100 fun args h K hc hS => by
  obtain ⟨a, b, m, rest, rfl, H, hS1⟩ := memF_spec hS
  clear hS
  have hS := hS1
  clear hS1
  unfold otM at hS
  split at hS
  · rename_i a n
    obtain ⟨hn, hS⟩ := hS
    simp only [spec_ok, setM_self H] at hS
    have hl := m.l
    have hn0 : n ≠ 0 := by omega
    cases hh : m.has a n with
    | false =>
      have hh2 := M.has_not hh
      have : otB m a n = false := by simp only [otB, decide_eq_false_iff_not]; omega
      rw [this] at hS
      simp (config := { maxSteps := 10000000 }) only [run_drx, run_xd, run_xq, run_xg, run_xb, EV1, EV2, EV3, EV4, EV5, EV6, addT, istep, lenR_sl, lenR_ns, lenR_es, pickR, putD, bin1R, un1R, slcR, bnd, capsOf, fillP, S_plain, V_plain, V.cells, S_known, V_known, C.v, blk, setL, setH, eqS, eq1, cmpS, cmp1, isNil, popTo, killT, setT, leT, V.below, C.below, S_below, R.below, V.val, C.val, S_val, R.val, R.takes, vals, shows, List.any_cons, List.any_nil, unnamed, V.kill, V.names, C.names, S_names, R.names, List.set, List.replicate, ↓q_cond_t, ↓q_cond_f, if_true, if_false, reduceCtorEq, rvals, rvC, result, C_known, V.noL, C.noL, S_noL, R.noL, Option.map, true_and, and_true, ge_iff_le, gt_iff_lt, implies_true, q_ite_t, q_ite_f, beq_iff_eq, bne_iff_ne, q_ne, Nat.reduceAdd, Nat.reducePow, Int.reducePow, Nat.reduceMul, Nat.reduceSub, Nat.reduceLeDiff, Nat.reduceLT, Nat.reduceEqDiff, Int.reduceNeg, Int.reduceLT, Int.reduceLE, Int.reduceEq, Int.reduceNe, Int.reduceAdd, Int.reduceSub, Int.reduceMul, Int.reduceToNat, Int.reduceBEq, Int.reduceBNe, df102, To2, thereG, memF_eq H, thereM, setM_self H, hh]
      exact hS
    | true =>
      have hh2 := M.has_iff.1 hh
      by_cases c1 : 1024 ≤ a
      · have ht : a.tmod n = a % n := Int.tmod_eq_emod_of_nonneg (by omega)
        by_cases c2 : a % n = 0
        · rw [otB_iff.2 ⟨c1, c2, by omega⟩] at hS
          simp (config := { maxSteps := 10000000 }) only [run_drx, run_xd, run_xq, run_xg, run_xb, EV1, EV2, EV3, EV4, EV5, EV6, addT, istep, lenR_sl, lenR_ns, lenR_es, pickR, putD, bin1R, un1R, slcR, bnd, capsOf, fillP, S_plain, V_plain, V.cells, S_known, V_known, C.v, blk, setL, setH, eqS, eq1, cmpS, cmp1, isNil, popTo, killT, setT, leT, V.below, C.below, S_below, R.below, V.val, C.val, S_val, R.val, R.takes, vals, shows, List.any_cons, List.any_nil, unnamed, V.kill, V.names, C.names, S_names, R.names, List.set, List.replicate, ↓q_cond_t, ↓q_cond_f, if_true, if_false, reduceCtorEq, rvals, rvC, result, C_known, V.noL, C.noL, S_noL, R.noL, Option.map, true_and, and_true, ge_iff_le, gt_iff_lt, implies_true, q_ite_t, q_ite_f, beq_iff_eq, bne_iff_ne, q_ne, Nat.reduceAdd, Nat.reducePow, Int.reducePow, Nat.reduceMul, Nat.reduceSub, Nat.reduceLeDiff, Nat.reduceLT, Nat.reduceEqDiff, Int.reduceNeg, Int.reduceLT, Int.reduceLE, Int.reduceEq, Int.reduceNe, Int.reduceAdd, Int.reduceSub, Int.reduceMul, Int.reduceToNat, Int.reduceBEq, Int.reduceBNe, df102, To2, thereG, memF_eq H, thereM, setM_self H, hh, c1, hn0, ht, c2]
          exact hS
        · have : otB m a n = false := by simp only [otB, decide_eq_false_iff_not]; omega
          rw [this] at hS
          have c2' : (a % n == 0) = false := by simpa using c2
          simp (config := { maxSteps := 10000000 }) only [run_drx, run_xd, run_xq, run_xg, run_xb, EV1, EV2, EV3, EV4, EV5, EV6, addT, istep, lenR_sl, lenR_ns, lenR_es, pickR, putD, bin1R, un1R, slcR, bnd, capsOf, fillP, S_plain, V_plain, V.cells, S_known, V_known, C.v, blk, setL, setH, eqS, eq1, cmpS, cmp1, isNil, popTo, killT, setT, leT, V.below, C.below, S_below, R.below, V.val, C.val, S_val, R.val, R.takes, vals, shows, List.any_cons, List.any_nil, unnamed, V.kill, V.names, C.names, S_names, R.names, List.set, List.replicate, ↓q_cond_t, ↓q_cond_f, if_true, if_false, reduceCtorEq, rvals, rvC, result, C_known, V.noL, C.noL, S_noL, R.noL, Option.map, true_and, and_true, ge_iff_le, gt_iff_lt, implies_true, q_ite_t, q_ite_f, beq_iff_eq, bne_iff_ne, q_ne, Nat.reduceAdd, Nat.reducePow, Int.reducePow, Nat.reduceMul, Nat.reduceSub, Nat.reduceLeDiff, Nat.reduceLT, Nat.reduceEqDiff, Int.reduceNeg, Int.reduceLT, Int.reduceLE, Int.reduceEq, Int.reduceNe, Int.reduceAdd, Int.reduceSub, Int.reduceMul, Int.reduceToNat, Int.reduceBEq, Int.reduceBNe, df102, To2, thereG, memF_eq H, thereM, setM_self H, hh, c1, hn0, ht, c2']
          exact hS
      · have : otB m a n = false := by simp only [otB, decide_eq_false_iff_not]; omega
        rw [this] at hS
        simp (config := { maxSteps := 10000000 }) only [run_drx, run_xd, run_xq, run_xg, run_xb, EV1, EV2, EV3, EV4, EV5, EV6, addT, istep, lenR_sl, lenR_ns, lenR_es, pickR, putD, bin1R, un1R, slcR, bnd, capsOf, fillP, S_plain, V_plain, V.cells, S_known, V_known, C.v, blk, setL, setH, eqS, eq1, cmpS, cmp1, isNil, popTo, killT, setT, leT, V.below, C.below, S_below, R.below, V.val, C.val, S_val, R.val, R.takes, vals, shows, List.any_cons, List.any_nil, unnamed, V.kill, V.names, C.names, S_names, R.names, List.set, List.replicate, ↓q_cond_t, ↓q_cond_f, if_true, if_false, reduceCtorEq, rvals, rvC, result, C_known, V.noL, C.noL, S_noL, R.noL, Option.map, true_and, and_true, ge_iff_le, gt_iff_lt, implies_true, q_ite_t, q_ite_f, beq_iff_eq, bne_iff_ne, q_ne, Nat.reduceAdd, Nat.reducePow, Int.reducePow, Nat.reduceMul, Nat.reduceSub, Nat.reduceLeDiff, Nat.reduceLT, Nat.reduceEqDiff, Int.reduceNeg, Int.reduceLT, Int.reduceLE, Int.reduceEq, Int.reduceNe, Int.reduceAdd, Int.reduceSub, Int.reduceMul, Int.reduceToNat, Int.reduceBEq, Int.reduceBNe, df102, To2, thereG, memF_eq H, thereM, setM_self H, hh, c1]
        exact hS
  · exact hS.elim
end Go.Proofs.Ytdlloccodmdnnaa

