/- Law 01: WordKeeps. -/
import Derived.Test.YtmchhjjdlcmhoaaDoorZ12
import Derived.Test.YtmchhjjdlcmhoaaDoorZ17
import Derived.Test.YtmchhjjdlcmhoaaDoorZ15
/- The document's Pack. -/
namespace Go.Proofs.YtmchhjjdlcmhoaaDoor
open Go.D
set_option linter.all false
set_option maxRecDepth 100000
set_option maxHeartbeats 4000000

def pairs : List Int → List Int → List Fd
  | b :: L, v :: M => ⟨b, v⟩ :: pairs L M
  | _, _ => []
theorem pairs_len : ∀ L M : List Int, (pairs L M).length = min L.length M.length
  | [], M => by simp [pairs]
  | b :: L, [] => by simp [pairs]
  | b :: L, v :: M => by simp only [pairs, List.length_cons, pairs_len L M]; omega
theorem pairs_drop : ∀ (i : Nat) (L M : List Int), i < L.length → i < M.length → (pairs L M).drop i = ⟨nth 0 L i, nth 0 M i⟩ :: (pairs L M).drop (i + 1)
  | 0, b :: L, v :: M, _, _ => rfl
  | i + 1, b :: L, v :: M, h1, h2 => by
    have := pairs_drop i L M (by simpa using h1) (by simpa using h2)
    simpa [pairs, nth] using this
  | _, [], M, h, _ => by simp at h
  | _, b :: L, [], _, h => by simp at h
theorem nth_take {L : List Int} {n i : Nat} (h : i < n) (hL : i < L.length) : nth 0 (L.take n) i = nth 0 L i := by
  rw [nth_eq hL, nth_eq (by simp; omega), List.getElem_take]

def rpackG : List V → List Blk → Res
  | [.s .ns, .s .ns], h => .ok (.tup [.s (.i .u64 0), .s (.i .i64 0)]) [] h
  | [.s (.sl (.g k) 0 n _), .s (.sl (.g k') 0 n' _)], h => match h[k]?, h[k']? with
    | some B, some B' => .ob (B.st ≠ .dead ∧ B'.st ≠ .dead ∧ B.cells = arr Ic (decI B.cells) ∧ B'.cells = arr Uc (decI B'.cells) ∧ n ≤ (decI B.cells).length ∧ n ≤ n' ∧ n' ≤ (decI B'.cells).length ∧ n ≤ 9223372036854775807 ∧ ∀ v, v ∈ decI B'.cells → u64 v)
      (.br (packB (pairs ((decI B.cells).take n) ((decI B'.cells).take n)) 0) (.ok (.tup [.s (.i .u64 (packV (pairs ((decI B.cells).take n) ((decI B'.cells).take n)) 0)), .s (.i .i64 0)]) [] h) (.ok (.tup [.s (.i .u64 0), .s (.i .i64 10)]) [] h))
    | _, _ => .bad
  | _, _ => .bad

theorem shl_fit {v k m : Nat} (hv : v < 2 ^ m) (h : k + m ≤ 64) : IntKind.u64.wrap ((v : Int) * 2 ^ min k IntKind.u64.bits) = ((2 ^ k * v : Nat) : Int) := by
  have : min k IntKind.u64.bits = k := by show min k 64 = k; omega
  have e : (v : Int) * 2 ^ k = ((2 ^ k * v : Nat) : Int) := by push_cast; exact Int.mul_comm _ _
  have h1 := low_step (w := 0) (k := k) (Nat.two_pow_pos k) hv
  have h2 : 2 ^ (k + m) ≤ 2 ^ 64 := Nat.pow_le_pow_right (by decide) h
  rw [this, e, IntKind.wrap_u64]
  generalize 2 ^ k * v = q at *
  omega

theorem rpack_snd : Snd Tryd.prog 14 (FSpec.of rpackG) := snd_run B6_snd mixed Tryd.func14 dc14 100 fun args h K _ hS => by
  unfold rpackG at hS
  split at hS
  · rw [spec_ok] at hS
    simp (config := { maxSteps := 10000000 }) only [run_drx, run_xd, run_xq, run_xg, run_xb, EV1, EV2, EV3, EV4, EV5, EV6, addT, istep, lenR_sl, lenR_ns, lenR_es, pickR, putD, bin1R, un1R, slcR, bnd, capsOf, fillP, S_plain, V_plain, V.cells, S_known, V_known, C.v, blk, setL, setH, eqS, eq1, cmpS, cmp1, isNil, popTo, killT, setT, leT, V.below, C.below, S_below, R.below, V.val, C.val, S_val, R.val, R.takes, vals, shows, List.any_cons, List.any_nil, unnamed, V.kill, V.names, C.names, S_names, R.names, List.set, List.replicate, ↓q_cond_t, ↓q_cond_f, if_true, if_false, reduceCtorEq, rvals, rvC, result, C_known, V.noL, C.noL, S_noL, R.noL, Option.map, true_and, and_true, ge_iff_le, gt_iff_lt, implies_true, q_ite_t, q_ite_f, beq_iff_eq, bne_iff_ne, q_ne, Nat.reduceAdd, Nat.reducePow, Int.reducePow, Nat.reduceMul, Nat.reduceSub, Nat.reduceLeDiff, Nat.reduceLT, Nat.reduceEqDiff, Int.reduceNeg, Int.reduceLT, Int.reduceLE, Int.reduceEq, Int.reduceNe, Int.reduceAdd, Int.reduceSub, Int.reduceMul, Int.reduceToNat, Int.reduceBEq, Int.reduceBNe, df14]
    refine loop_rule (α := Unit) [] (fun _ => []) (fun _ => []) (fun _ => h) (fun _ => True) (fun _ => 0) () trivial .refl ?_
    rintro X _ _ _
    refine run_sound (Tab.ok_Γ _) 100 _ _ _ _ ?_
    simp (config := { maxSteps := 10000000 }) only [run_drx, run_xd, run_xq, run_xg, run_xb, EV1, EV2, EV3, EV4, EV5, EV6, addT, istep, lenR_sl, lenR_ns, lenR_es, pickR, putD, bin1R, un1R, slcR, bnd, capsOf, fillP, S_plain, V_plain, V.cells, S_known, V_known, C.v, blk, setL, setH, eqS, eq1, cmpS, cmp1, isNil, popTo, killT, setT, leT, V.below, C.below, S_below, R.below, V.val, C.val, S_val, R.val, R.takes, vals, shows, List.any_cons, List.any_nil, unnamed, V.kill, V.names, C.names, S_names, R.names, List.set, List.replicate, ↓q_cond_t, ↓q_cond_f, if_true, if_false, reduceCtorEq, rvals, rvC, result, C_known, V.noL, C.noL, S_noL, R.noL, Option.map, true_and, and_true, ge_iff_le, gt_iff_lt, implies_true, q_ite_t, q_ite_f, beq_iff_eq, bne_iff_ne, q_ne, Nat.reduceAdd, Nat.reducePow, Int.reducePow, Nat.reduceMul, Nat.reduceSub, Nat.reduceLeDiff, Nat.reduceLT, Nat.reduceEqDiff, Int.reduceNeg, Int.reduceLT, Int.reduceLE, Int.reduceEq, Int.reduceNe, Int.reduceAdd, Int.reduceSub, Int.reduceMul, Int.reduceToNat, Int.reduceBEq, Int.reduceBNe, Int.lt_irrefl]
    exact hS
  · rename_i k n c k' n' c'
    split at hS
    · rename_i B B' hk hk'
      obtain ⟨⟨hst, hst', hB, hB', hn, hnn, hn', hn64, hu⟩, hS⟩ := hS
      simp only [spec_br, spec_ok] at hS
      generalize decI B.cells = L at *
      generalize decI B'.cells = M at *
      obtain ⟨F, hF⟩ : ∃ F, F = pairs (L.take n) (M.take n) := ⟨_, rfl⟩
      have hFl : F.length = n := by rw [hF, pairs_len]; simp; omega
      rw [← hF] at hS
      simp (config := { maxSteps := 10000000 }) only [run_drx, run_xd, run_xq, run_xg, run_xb, EV1, EV2, EV3, EV4, EV5, EV6, addT, istep, lenR_sl, lenR_ns, lenR_es, pickR, putD, bin1R, un1R, slcR, bnd, capsOf, fillP, S_plain, V_plain, V.cells, S_known, V_known, C.v, blk, setL, setH, eqS, eq1, cmpS, cmp1, isNil, popTo, killT, setT, leT, V.below, C.below, S_below, R.below, V.val, C.val, S_val, R.val, R.takes, vals, shows, List.any_cons, List.any_nil, unnamed, V.kill, V.names, C.names, S_names, R.names, List.set, List.replicate, ↓q_cond_t, ↓q_cond_f, if_true, if_false, reduceCtorEq, rvals, rvC, result, C_known, V.noL, C.noL, S_noL, R.noL, Option.map, true_and, and_true, ge_iff_le, gt_iff_lt, implies_true, q_ite_t, q_ite_f, beq_iff_eq, bne_iff_ne, q_ne, Nat.reduceAdd, Nat.reducePow, Int.reducePow, Nat.reduceMul, Nat.reduceSub, Nat.reduceLeDiff, Nat.reduceLT, Nat.reduceEqDiff, Int.reduceNeg, Int.reduceLT, Int.reduceLE, Int.reduceEq, Int.reduceNe, Int.reduceAdd, Int.reduceSub, Int.reduceMul, Int.reduceToNat, Int.reduceBEq, Int.reduceBNe, df14]
      refine loop_rule (α := Nat × Nat × Nat) [4, 5, 6, 7, 8, 9, 10, 11, 12, 13, 14, 15, 16, 17, 18, 19, 20, 21, 22, 23, 24, 25, 26, 27, 28, 29, 30, 31, 32, 33, 34, 35, 36, 37, 38, 39, 40, 41, 42, 43, 44, 45, 46, 47, 48, 49] (fun y => [(6, .s (.i .i64 y.2.1)), (7, .s (.i .u64 y.2.2)), (8, .s (.i .i64 y.1))]) (fun _ => []) (fun _ => h)
        (fun y => y.1 ≤ n ∧ y.2.1 ≤ 64 ∧ y.2.2 < 2 ^ y.2.1 ∧ packB F 0 = packB (F.drop y.1) y.2.1 ∧ packV F 0 = y.2.2 + packV (F.drop y.1) y.2.1) (fun y => n - y.1) (0, 0, 0) ⟨by simp, by simp, by simp, by simp, by simp⟩ (Wk.same rfl rfl ?_) ?_
      · simp (config := { maxSteps := 10000000 }) only [run_drx, run_xd, run_xq, run_xg, run_xb, EV1, EV2, EV3, EV4, EV5, EV6, addT, istep, lenR_sl, lenR_ns, lenR_es, pickR, putD, bin1R, un1R, slcR, bnd, capsOf, fillP, S_plain, V_plain, V.cells, S_known, V_known, C.v, blk, setL, setH, eqS, eq1, cmpS, cmp1, isNil, popTo, killT, setT, leT, V.below, C.below, S_below, R.below, V.val, C.val, S_val, R.val, R.takes, vals, shows, List.any_cons, List.any_nil, unnamed, V.kill, V.names, C.names, S_names, R.names, List.set, List.replicate, ↓q_cond_t, ↓q_cond_f, if_true, if_false, reduceCtorEq, rvals, rvC, result, C_known, V.noL, C.noL, S_noL, R.noL, Option.map, true_and, and_true, ge_iff_le, gt_iff_lt, implies_true, q_ite_t, q_ite_f, beq_iff_eq, bne_iff_ne, q_ne, Nat.reduceAdd, Nat.reducePow, Int.reducePow, Nat.reduceMul, Nat.reduceSub, Nat.reduceLeDiff, Nat.reduceLT, Nat.reduceEqDiff, Int.reduceNeg, Int.reduceLT, Int.reduceLE, Int.reduceEq, Int.reduceNe, Int.reduceAdd, Int.reduceSub, Int.reduceMul, Int.reduceToNat, Int.reduceBEq, Int.reduceBNe, Int.natCast_zero]
      · rintro X ⟨i, a, w⟩ ⟨hi, ha, hw, hpb, hpv⟩ IH
        simp only at hi ha hw hpb hpv ⊢
        rcases Nat.lt_or_ge i n with hlt | hge
        · have I := idx hlt hn64
          have I2 := idx (Nat.lt_of_lt_of_le hlt hnn)
          have hiL : i < L.length := by omega
          have hiM : i < M.length := by omega
          have E : B.cells[i]? = some (.i .i64 (nth 0 L i)) := by
            have := arr_get0 Ic_len hiL (by omega)
            rw [Nat.mul_one] at this
            rw [hB, this, nth_eq hiL]; rfl
          have E' : B'.cells[i]? = some (.i .u64 (nth 0 M i)) := by
            have := arr_get0 Uc_len hiM (by omega)
            rw [Nat.mul_one] at this
            rw [hB', this, nth_eq hiM]; rfl
          have hin' : (i : Int) < (n' : Int) := by omega
          have hd : F.drop i = ⟨nth 0 L i, nth 0 M i⟩ :: F.drop (i + 1) := by
            rw [hF, pairs_drop i _ _ (by simp; omega) (by simp; omega), nth_take hlt hiL, nth_take hlt hiM]
          have hvu : u64 (nth 0 M i) := hu _ (by rw [nth_eq hiM]; exact List.getElem_mem _)
          obtain ⟨v, hv, hv'⟩ := hvu.nat
          rw [hv] at E' hd hvu
          generalize nth 0 L i = b at *
          rw [hd] at hpb hpv
          simp only [packB, packV] at hpb hpv
          cases hf : fieldB (a : Int) b with
          | true =>
            obtain ⟨a', m, e1, e2, h1, h2, h3⟩ := fieldB_nat hf
            have : a' = a := by omega
            subst this
            subst e2
            have m0 : (0 : Int) ≤ (m : Int) := by omega
            by_cases hvm : v < 2 ^ m
            · have ht : fitB (v : Int) (m : Int) = true := by simp [fitB, hvm]
              have hs : setB (a' : Int) (m : Int) (v : Int) = true := by simp [setB, hf, hvm]
              have hsh := shl_fit hvm h3
              have hls := low_step hw hvm
              have h264 : 2 ^ (a' + m) ≤ 2 ^ 64 := Nat.pow_le_pow_right (by decide) h3
              have hsv : IntKind.u64.wrap ((w : Int) + ((2 ^ a' * v : Nat) : Int)) = ((w + 2 ^ a' * v : Nat) : Int) := c_add (by omega)
              have hwr : IntKind.i64.wrap ((a' : Int) + (m : Int)) = ((a' + m : Nat) : Int) := by rw [wrap64] <;> omega
              have a0 : (0 : Int) ≤ (a' : Int) := by omega
              refine run_sound (Tab.ok_Γ _) 200 _ _ _ _ ?_
              simp (config := { maxSteps := 10000000 }) only [run_drx, run_xd, run_xq, run_xg, run_xb, EV1, EV2, EV3, EV4, EV5, EV6, addT, istep, lenR_sl, lenR_ns, lenR_es, pickR, putD, bin1R, un1R, slcR, bnd, capsOf, fillP, S_plain, V_plain, V.cells, S_known, V_known, C.v, blk, setL, setH, eqS, eq1, cmpS, cmp1, isNil, popTo, killT, setT, leT, V.below, C.below, S_below, R.below, V.val, C.val, S_val, R.val, R.takes, vals, shows, List.any_cons, List.any_nil, unnamed, V.kill, V.names, C.names, S_names, R.names, List.set, List.replicate, ↓q_cond_t, ↓q_cond_f, if_true, if_false, reduceCtorEq, rvals, rvC, result, C_known, V.noL, C.noL, S_noL, R.noL, Option.map, true_and, and_true, ge_iff_le, gt_iff_lt, implies_true, q_ite_t, q_ite_f, beq_iff_eq, bne_iff_ne, q_ne, Nat.reduceAdd, Nat.reducePow, Int.reducePow, Nat.reduceMul, Nat.reduceSub, Nat.reduceLeDiff, Nat.reduceLT, Nat.reduceEqDiff, Int.reduceNeg, Int.reduceLT, Int.reduceLE, Int.reduceEq, Int.reduceNe, Int.reduceAdd, Int.reduceSub, Int.reduceMul, Int.reduceToNat, Int.reduceBEq, Int.reduceBNe, I, E, E', hk, hst, hk', hst', hin', B6, fieldG, fitsG, hvu, hf, ht, m0, hsh, hsv, hwr, a0]
              refine IH (i + 1, a' + m, w + 2 ^ a' * v) _ (by simp only; omega) ⟨by simp only; omega, h3, low_step hw hvm, ?_, ?_⟩ (Wk.keep 0 rfl rfl ?_ ?_ rfl)
              · rw [hpb, hs, Bool.true_and]; rfl
              · rw [hpv]
                simp only [Int.toNat_natCast]
                push_cast
                omega
              · simp (config := { maxSteps := 10000000 }) only [run_drx, run_xd, run_xq, run_xg, run_xb, EV1, EV2, EV3, EV4, EV5, EV6, addT, istep, lenR_sl, lenR_ns, lenR_es, pickR, putD, bin1R, un1R, slcR, bnd, capsOf, fillP, S_plain, V_plain, V.cells, S_known, V_known, C.v, blk, setL, setH, eqS, eq1, cmpS, cmp1, isNil, popTo, killT, setT, leT, V.below, C.below, S_below, R.below, V.val, C.val, S_val, R.val, R.takes, vals, shows, List.any_cons, List.any_nil, unnamed, V.kill, V.names, C.names, S_names, R.names, List.set, List.replicate, ↓q_cond_t, ↓q_cond_f, if_true, if_false, reduceCtorEq, rvals, rvC, result, C_known, V.noL, C.noL, S_noL, R.noL, Option.map, true_and, and_true, ge_iff_le, gt_iff_lt, implies_true, q_ite_t, q_ite_f, beq_iff_eq, bne_iff_ne, q_ne, Nat.reduceAdd, Nat.reducePow, Int.reducePow, Nat.reduceMul, Nat.reduceSub, Nat.reduceLeDiff, Nat.reduceLT, Nat.reduceEqDiff, Int.reduceNeg, Int.reduceLT, Int.reduceLE, Int.reduceEq, Int.reduceNe, Int.reduceAdd, Int.reduceSub, Int.reduceMul, Int.reduceToNat, Int.reduceBEq, Int.reduceBNe]
              · simp (config := { maxSteps := 10000000 }) only [run_drx, run_xd, run_xq, run_xg, run_xb, EV1, EV2, EV3, EV4, EV5, EV6, addT, istep, lenR_sl, lenR_ns, lenR_es, pickR, putD, bin1R, un1R, slcR, bnd, capsOf, fillP, S_plain, V_plain, V.cells, S_known, V_known, C.v, blk, setL, setH, eqS, eq1, cmpS, cmp1, isNil, popTo, killT, setT, leT, V.below, C.below, S_below, R.below, V.val, C.val, S_val, R.val, R.takes, vals, shows, List.any_cons, List.any_nil, unnamed, V.kill, V.names, C.names, S_names, R.names, List.set, List.replicate, ↓q_cond_t, ↓q_cond_f, if_true, if_false, reduceCtorEq, rvals, rvC, result, C_known, V.noL, C.noL, S_noL, R.noL, Option.map, true_and, and_true, ge_iff_le, gt_iff_lt, implies_true, q_ite_t, q_ite_f, beq_iff_eq, bne_iff_ne, q_ne, Nat.reduceAdd, Nat.reducePow, Int.reducePow, Nat.reduceMul, Nat.reduceSub, Nat.reduceLeDiff, Nat.reduceLT, Nat.reduceEqDiff, Int.reduceNeg, Int.reduceLT, Int.reduceLE, Int.reduceEq, Int.reduceNe, Int.reduceAdd, Int.reduceSub, Int.reduceMul, Int.reduceToNat, Int.reduceBEq, Int.reduceBNe]
            · have ht : fitB (v : Int) (m : Int) = false := by simp [fitB]; omega
              have hs : setB (a' : Int) (m : Int) (v : Int) = false := by simp [setB, hvm]
              rw [hs, Bool.false_and] at hpb
              have hS := hS.2 hpb
              refine run_sound (Tab.ok_Γ _) 200 _ _ _ _ ?_
              simp (config := { maxSteps := 10000000 }) only [run_drx, run_xd, run_xq, run_xg, run_xb, EV1, EV2, EV3, EV4, EV5, EV6, addT, istep, lenR_sl, lenR_ns, lenR_es, pickR, putD, bin1R, un1R, slcR, bnd, capsOf, fillP, S_plain, V_plain, V.cells, S_known, V_known, C.v, blk, setL, setH, eqS, eq1, cmpS, cmp1, isNil, popTo, killT, setT, leT, V.below, C.below, S_below, R.below, V.val, C.val, S_val, R.val, R.takes, vals, shows, List.any_cons, List.any_nil, unnamed, V.kill, V.names, C.names, S_names, R.names, List.set, List.replicate, ↓q_cond_t, ↓q_cond_f, if_true, if_false, reduceCtorEq, rvals, rvC, result, C_known, V.noL, C.noL, S_noL, R.noL, Option.map, true_and, and_true, ge_iff_le, gt_iff_lt, implies_true, q_ite_t, q_ite_f, beq_iff_eq, bne_iff_ne, q_ne, Nat.reduceAdd, Nat.reducePow, Int.reducePow, Nat.reduceMul, Nat.reduceSub, Nat.reduceLeDiff, Nat.reduceLT, Nat.reduceEqDiff, Int.reduceNeg, Int.reduceLT, Int.reduceLE, Int.reduceEq, Int.reduceNe, Int.reduceAdd, Int.reduceSub, Int.reduceMul, Int.reduceToNat, Int.reduceBEq, Int.reduceBNe, I, E, E', hk, hst, hk', hst', hin', B6, fieldG, fitsG, hvu, hf, ht, m0]
              exact hS
          | false =>
            have hs : setB (a : Int) b (v : Int) = false := by simp [setB, hf]
            rw [hs, Bool.false_and] at hpb
            have hS := hS.2 hpb
            refine run_sound (Tab.ok_Γ _) 200 _ _ _ _ ?_
            simp (config := { maxSteps := 10000000 }) only [run_drx, run_xd, run_xq, run_xg, run_xb, EV1, EV2, EV3, EV4, EV5, EV6, addT, istep, lenR_sl, lenR_ns, lenR_es, pickR, putD, bin1R, un1R, slcR, bnd, capsOf, fillP, S_plain, V_plain, V.cells, S_known, V_known, C.v, blk, setL, setH, eqS, eq1, cmpS, cmp1, isNil, popTo, killT, setT, leT, V.below, C.below, S_below, R.below, V.val, C.val, S_val, R.val, R.takes, vals, shows, List.any_cons, List.any_nil, unnamed, V.kill, V.names, C.names, S_names, R.names, List.set, List.replicate, ↓q_cond_t, ↓q_cond_f, if_true, if_false, reduceCtorEq, rvals, rvC, result, C_known, V.noL, C.noL, S_noL, R.noL, Option.map, true_and, and_true, ge_iff_le, gt_iff_lt, implies_true, q_ite_t, q_ite_f, beq_iff_eq, bne_iff_ne, q_ne, Nat.reduceAdd, Nat.reducePow, Int.reducePow, Nat.reduceMul, Nat.reduceSub, Nat.reduceLeDiff, Nat.reduceLT, Nat.reduceEqDiff, Int.reduceNeg, Int.reduceLT, Int.reduceLE, Int.reduceEq, Int.reduceNe, Int.reduceAdd, Int.reduceSub, Int.reduceMul, Int.reduceToNat, Int.reduceBEq, Int.reduceBNe, I, E, E', hk, hst, hk', hst', hin', B6, fieldG, fitsG, hvu, hf]
            exact hS
        · have : i = n := by omega
          subst this
          refine run_sound (Tab.ok_Γ _) 100 _ _ _ _ ?_
          simp (config := { maxSteps := 10000000 }) only [run_drx, run_xd, run_xq, run_xg, run_xb, EV1, EV2, EV3, EV4, EV5, EV6, addT, istep, lenR_sl, lenR_ns, lenR_es, pickR, putD, bin1R, un1R, slcR, bnd, capsOf, fillP, S_plain, V_plain, V.cells, S_known, V_known, C.v, blk, setL, setH, eqS, eq1, cmpS, cmp1, isNil, popTo, killT, setT, leT, V.below, C.below, S_below, R.below, V.val, C.val, S_val, R.val, R.takes, vals, shows, List.any_cons, List.any_nil, unnamed, V.kill, V.names, C.names, S_names, R.names, List.set, List.replicate, ↓q_cond_t, ↓q_cond_f, if_true, if_false, reduceCtorEq, rvals, rvC, result, C_known, V.noL, C.noL, S_noL, R.noL, Option.map, true_and, and_true, ge_iff_le, gt_iff_lt, implies_true, q_ite_t, q_ite_f, beq_iff_eq, bne_iff_ne, q_ne, Nat.reduceAdd, Nat.reducePow, Int.reducePow, Nat.reduceMul, Nat.reduceSub, Nat.reduceLeDiff, Nat.reduceLT, Nat.reduceEqDiff, Int.reduceNeg, Int.reduceLT, Int.reduceLE, Int.reduceEq, Int.reduceNe, Int.reduceAdd, Int.reduceSub, Int.reduceMul, Int.reduceToNat, Int.reduceBEq, Int.reduceBNe, Int.lt_irrefl]
          have hdn : F.drop i = [] := List.drop_eq_nil_of_le (by omega)
          rw [hdn] at hpb hpv
          have := hS.1 hpb
          rw [hpv] at this
          simpa [packV] using this
    · exact hS.elim
  · exact hS.elim

end Go.Proofs.YtmchhjjdlcmhoaaDoor

/- The document's Unpack; two lists compared. -/
namespace Go.Proofs.YtmchhjjdlcmhoaaDoor
open Go.D
set_option linter.all false
set_option maxRecDepth 100000
set_option maxHeartbeats 4000000

def B8 : Tab := addT 10 getG noT
theorem B8_snd : B8.Snd Tryd.prog := addT_snd ok10 rget_snd (noT_snd _)

end Go.Proofs.YtmchhjjdlcmhoaaDoor

/- Law 01: two lists compared; awake; WordFields, WordBits, WordKeeps. -/
namespace Go.Proofs.YtmchhjjdlcmhoaaDoor
open Go.D
set_option linter.all false
set_option maxRecDepth 100000
set_option maxHeartbeats 4000000

/-- Two lists of the same words. -/
def same1G : List V → List Blk → Res
  | [.s .ns, .s .ns], h => .ok (.s (.b true)) [] h
  | [.s (.sl (.g k) 0 n _), .s (.sl (.g k') 0 n' _)], h => match h[k]?, h[k']? with
    | some B, some B' => .ob (B.st ≠ .dead ∧ B'.st ≠ .dead ∧ B.cells = arr Uc (decI B.cells) ∧ B'.cells = B.cells ∧ n ≤ (decI B.cells).length ∧ n = n' ∧ n ≤ 9223372036854775807)
      (.ok (.s (.b true)) [] h)
    | _, _ => .bad
  | _, _ => .bad
theorem same1_snd : Snd Tryd.prog 17 (FSpec.of same1G) := snd_run (noT_snd _) mixed Tryd.func17 dc17 100 fun args h K _ hS => by
  unfold same1G at hS
  split at hS
  · rw [spec_ok] at hS
    simp (config := { maxSteps := 10000000 }) only [run_drx, run_xd, run_xq, run_xg, run_xb, EV1, EV2, EV3, EV4, EV5, EV6, addT, istep, lenR_sl, lenR_ns, lenR_es, pickR, putD, bin1R, un1R, slcR, bnd, capsOf, fillP, S_plain, V_plain, V.cells, S_known, V_known, C.v, blk, setL, setH, eqS, eq1, cmpS, cmp1, isNil, popTo, killT, setT, leT, V.below, C.below, S_below, R.below, V.val, C.val, S_val, R.val, R.takes, vals, shows, List.any_cons, List.any_nil, unnamed, V.kill, V.names, C.names, S_names, R.names, List.set, List.replicate, ↓q_cond_t, ↓q_cond_f, if_true, if_false, reduceCtorEq, rvals, rvC, result, C_known, V.noL, C.noL, S_noL, R.noL, Option.map, true_and, and_true, ge_iff_le, gt_iff_lt, implies_true, q_ite_t, q_ite_f, beq_iff_eq, bne_iff_ne, q_ne, Nat.reduceAdd, Nat.reducePow, Int.reducePow, Nat.reduceMul, Nat.reduceSub, Nat.reduceLeDiff, Nat.reduceLT, Nat.reduceEqDiff, Int.reduceNeg, Int.reduceLT, Int.reduceLE, Int.reduceEq, Int.reduceNe, Int.reduceAdd, Int.reduceSub, Int.reduceMul, Int.reduceToNat, Int.reduceBEq, Int.reduceBNe, df17]
    refine loop_rule (α := Unit) [] (fun _ => []) (fun _ => []) (fun _ => h) (fun _ => True) (fun _ => 0) () trivial .refl ?_
    rintro X _ _ _
    refine run_sound (Tab.ok_Γ _) 100 _ _ _ _ ?_
    simp (config := { maxSteps := 10000000 }) only [run_drx, run_xd, run_xq, run_xg, run_xb, EV1, EV2, EV3, EV4, EV5, EV6, addT, istep, lenR_sl, lenR_ns, lenR_es, pickR, putD, bin1R, un1R, slcR, bnd, capsOf, fillP, S_plain, V_plain, V.cells, S_known, V_known, C.v, blk, setL, setH, eqS, eq1, cmpS, cmp1, isNil, popTo, killT, setT, leT, V.below, C.below, S_below, R.below, V.val, C.val, S_val, R.val, R.takes, vals, shows, List.any_cons, List.any_nil, unnamed, V.kill, V.names, C.names, S_names, R.names, List.set, List.replicate, ↓q_cond_t, ↓q_cond_f, if_true, if_false, reduceCtorEq, rvals, rvC, result, C_known, V.noL, C.noL, S_noL, R.noL, Option.map, true_and, and_true, ge_iff_le, gt_iff_lt, implies_true, q_ite_t, q_ite_f, beq_iff_eq, bne_iff_ne, q_ne, Nat.reduceAdd, Nat.reducePow, Int.reducePow, Nat.reduceMul, Nat.reduceSub, Nat.reduceLeDiff, Nat.reduceLT, Nat.reduceEqDiff, Int.reduceNeg, Int.reduceLT, Int.reduceLE, Int.reduceEq, Int.reduceNe, Int.reduceAdd, Int.reduceSub, Int.reduceMul, Int.reduceToNat, Int.reduceBEq, Int.reduceBNe, Int.lt_irrefl]
    exact hS
  · rename_i k n c k' n' c'
    split at hS
    · rename_i B B' hk hk'
      obtain ⟨⟨hst, hst', hB, hB', hn, rfl, hn64⟩, hS⟩ := hS
      simp only [spec_ok] at hS
      generalize decI B.cells = L at *
      simp (config := { maxSteps := 10000000 }) only [run_drx, run_xd, run_xq, run_xg, run_xb, EV1, EV2, EV3, EV4, EV5, EV6, addT, istep, lenR_sl, lenR_ns, lenR_es, pickR, putD, bin1R, un1R, slcR, bnd, capsOf, fillP, S_plain, V_plain, V.cells, S_known, V_known, C.v, blk, setL, setH, eqS, eq1, cmpS, cmp1, isNil, popTo, killT, setT, leT, V.below, C.below, S_below, R.below, V.val, C.val, S_val, R.val, R.takes, vals, shows, List.any_cons, List.any_nil, unnamed, V.kill, V.names, C.names, S_names, R.names, List.set, List.replicate, ↓q_cond_t, ↓q_cond_f, if_true, if_false, reduceCtorEq, rvals, rvC, result, C_known, V.noL, C.noL, S_noL, R.noL, Option.map, true_and, and_true, ge_iff_le, gt_iff_lt, implies_true, q_ite_t, q_ite_f, beq_iff_eq, bne_iff_ne, q_ne, Nat.reduceAdd, Nat.reducePow, Int.reducePow, Nat.reduceMul, Nat.reduceSub, Nat.reduceLeDiff, Nat.reduceLT, Nat.reduceEqDiff, Int.reduceNeg, Int.reduceLT, Int.reduceLE, Int.reduceEq, Int.reduceNe, Int.reduceAdd, Int.reduceSub, Int.reduceMul, Int.reduceToNat, Int.reduceBEq, Int.reduceBNe, df17]
      refine loop_rule (α := Nat) [4, 5, 11, 12, 13, 14, 15, 16, 17, 18, 19, 20, 21, 22, 23, 24, 25] (fun y => [(5, .s (.i .i64 (y : Int)))]) (fun _ => []) (fun _ => h)
        (fun y => y ≤ n) (fun y => n - y) 0 (Nat.zero_le _) (Wk.same rfl rfl ?_) ?_
      · simp (config := { maxSteps := 10000000 }) only [run_drx, run_xd, run_xq, run_xg, run_xb, EV1, EV2, EV3, EV4, EV5, EV6, addT, istep, lenR_sl, lenR_ns, lenR_es, pickR, putD, bin1R, un1R, slcR, bnd, capsOf, fillP, S_plain, V_plain, V.cells, S_known, V_known, C.v, blk, setL, setH, eqS, eq1, cmpS, cmp1, isNil, popTo, killT, setT, leT, V.below, C.below, S_below, R.below, V.val, C.val, S_val, R.val, R.takes, vals, shows, List.any_cons, List.any_nil, unnamed, V.kill, V.names, C.names, S_names, R.names, List.set, List.replicate, ↓q_cond_t, ↓q_cond_f, if_true, if_false, reduceCtorEq, rvals, rvC, result, C_known, V.noL, C.noL, S_noL, R.noL, Option.map, true_and, and_true, ge_iff_le, gt_iff_lt, implies_true, q_ite_t, q_ite_f, beq_iff_eq, bne_iff_ne, q_ne, Nat.reduceAdd, Nat.reducePow, Int.reducePow, Nat.reduceMul, Nat.reduceSub, Nat.reduceLeDiff, Nat.reduceLT, Nat.reduceEqDiff, Int.reduceNeg, Int.reduceLT, Int.reduceLE, Int.reduceEq, Int.reduceNe, Int.reduceAdd, Int.reduceSub, Int.reduceMul, Int.reduceToNat, Int.reduceBEq, Int.reduceBNe, Int.natCast_zero]
      · rintro X i hi IH
        rcases Nat.lt_or_ge i n with hlt | hge
        · have I := idx hlt hn64
          have hiL : i < L.length := by omega
          have E : B.cells[i]? = some (.i .u64 (nth 0 L i)) := by
            have := arr_get0 Uc_len hiL (by omega)
            rw [Nat.mul_one] at this
            rw [hB, this, nth_eq hiL]; rfl
          have E' : B'.cells[i]? = some (.i .u64 (nth 0 L i)) := by rw [hB']; exact E
          refine run_sound (Tab.ok_Γ _) 200 _ _ _ _ ?_
          simp (config := { maxSteps := 10000000 }) only [run_drx, run_xd, run_xq, run_xg, run_xb, EV1, EV2, EV3, EV4, EV5, EV6, addT, istep, lenR_sl, lenR_ns, lenR_es, pickR, putD, bin1R, un1R, slcR, bnd, capsOf, fillP, S_plain, V_plain, V.cells, S_known, V_known, C.v, blk, setL, setH, eqS, eq1, cmpS, cmp1, isNil, popTo, killT, setT, leT, V.below, C.below, S_below, R.below, V.val, C.val, S_val, R.val, R.takes, vals, shows, List.any_cons, List.any_nil, unnamed, V.kill, V.names, C.names, S_names, R.names, List.set, List.replicate, ↓q_cond_t, ↓q_cond_f, if_true, if_false, reduceCtorEq, rvals, rvC, result, C_known, V.noL, C.noL, S_noL, R.noL, Option.map, true_and, and_true, ge_iff_le, gt_iff_lt, implies_true, q_ite_t, q_ite_f, beq_iff_eq, bne_iff_ne, q_ne, Nat.reduceAdd, Nat.reducePow, Int.reducePow, Nat.reduceMul, Nat.reduceSub, Nat.reduceLeDiff, Nat.reduceLT, Nat.reduceEqDiff, Int.reduceNeg, Int.reduceLT, Int.reduceLE, Int.reduceEq, Int.reduceNe, Int.reduceAdd, Int.reduceSub, Int.reduceMul, Int.reduceToNat, Int.reduceBEq, Int.reduceBNe, I, E, E', hk, hst, hk', hst']
          refine IH (i + 1) _ (by omega) (by omega) (Wk.keep 0 rfl rfl ?_ ?_ rfl)
          · simp (config := { maxSteps := 10000000 }) only [run_drx, run_xd, run_xq, run_xg, run_xb, EV1, EV2, EV3, EV4, EV5, EV6, addT, istep, lenR_sl, lenR_ns, lenR_es, pickR, putD, bin1R, un1R, slcR, bnd, capsOf, fillP, S_plain, V_plain, V.cells, S_known, V_known, C.v, blk, setL, setH, eqS, eq1, cmpS, cmp1, isNil, popTo, killT, setT, leT, V.below, C.below, S_below, R.below, V.val, C.val, S_val, R.val, R.takes, vals, shows, List.any_cons, List.any_nil, unnamed, V.kill, V.names, C.names, S_names, R.names, List.set, List.replicate, ↓q_cond_t, ↓q_cond_f, if_true, if_false, reduceCtorEq, rvals, rvC, result, C_known, V.noL, C.noL, S_noL, R.noL, Option.map, true_and, and_true, ge_iff_le, gt_iff_lt, implies_true, q_ite_t, q_ite_f, beq_iff_eq, bne_iff_ne, q_ne, Nat.reduceAdd, Nat.reducePow, Int.reducePow, Nat.reduceMul, Nat.reduceSub, Nat.reduceLeDiff, Nat.reduceLT, Nat.reduceEqDiff, Int.reduceNeg, Int.reduceLT, Int.reduceLE, Int.reduceEq, Int.reduceNe, Int.reduceAdd, Int.reduceSub, Int.reduceMul, Int.reduceToNat, Int.reduceBEq, Int.reduceBNe]
          · simp (config := { maxSteps := 10000000 }) only [run_drx, run_xd, run_xq, run_xg, run_xb, EV1, EV2, EV3, EV4, EV5, EV6, addT, istep, lenR_sl, lenR_ns, lenR_es, pickR, putD, bin1R, un1R, slcR, bnd, capsOf, fillP, S_plain, V_plain, V.cells, S_known, V_known, C.v, blk, setL, setH, eqS, eq1, cmpS, cmp1, isNil, popTo, killT, setT, leT, V.below, C.below, S_below, R.below, V.val, C.val, S_val, R.val, R.takes, vals, shows, List.any_cons, List.any_nil, unnamed, V.kill, V.names, C.names, S_names, R.names, List.set, List.replicate, ↓q_cond_t, ↓q_cond_f, if_true, if_false, reduceCtorEq, rvals, rvC, result, C_known, V.noL, C.noL, S_noL, R.noL, Option.map, true_and, and_true, ge_iff_le, gt_iff_lt, implies_true, q_ite_t, q_ite_f, beq_iff_eq, bne_iff_ne, q_ne, Nat.reduceAdd, Nat.reducePow, Int.reducePow, Nat.reduceMul, Nat.reduceSub, Nat.reduceLeDiff, Nat.reduceLT, Nat.reduceEqDiff, Int.reduceNeg, Int.reduceLT, Int.reduceLE, Int.reduceEq, Int.reduceNe, Int.reduceAdd, Int.reduceSub, Int.reduceMul, Int.reduceToNat, Int.reduceBEq, Int.reduceBNe]
        · have : i = n := by omega
          subst this
          refine run_sound (Tab.ok_Γ _) 100 _ _ _ _ ?_
          simp (config := { maxSteps := 10000000 }) only [run_drx, run_xd, run_xq, run_xg, run_xb, EV1, EV2, EV3, EV4, EV5, EV6, addT, istep, lenR_sl, lenR_ns, lenR_es, pickR, putD, bin1R, un1R, slcR, bnd, capsOf, fillP, S_plain, V_plain, V.cells, S_known, V_known, C.v, blk, setL, setH, eqS, eq1, cmpS, cmp1, isNil, popTo, killT, setT, leT, V.below, C.below, S_below, R.below, V.val, C.val, S_val, R.val, R.takes, vals, shows, List.any_cons, List.any_nil, unnamed, V.kill, V.names, C.names, S_names, R.names, List.set, List.replicate, ↓q_cond_t, ↓q_cond_f, if_true, if_false, reduceCtorEq, rvals, rvC, result, C_known, V.noL, C.noL, S_noL, R.noL, Option.map, true_and, and_true, ge_iff_le, gt_iff_lt, implies_true, q_ite_t, q_ite_f, beq_iff_eq, bne_iff_ne, q_ne, Nat.reduceAdd, Nat.reducePow, Int.reducePow, Nat.reduceMul, Nat.reduceSub, Nat.reduceLeDiff, Nat.reduceLT, Nat.reduceEqDiff, Int.reduceNeg, Int.reduceLT, Int.reduceLE, Int.reduceEq, Int.reduceNe, Int.reduceAdd, Int.reduceSub, Int.reduceMul, Int.reduceToNat, Int.reduceBEq, Int.reduceBNe, Int.lt_irrefl]
          exact hS
    · exact hS.elim
  · exact hS.elim

/-! ### awake -/
def TA1 : Tab := addT 9 getG (addT 11 setG (addT 13 packG (addT 16 unpackG (addT 18 highG (addT 20 lowG (addT 22 onesG (addT 24 alG noT)))))))
theorem TA1_snd : TA1.Snd Tryd.prog := addT_snd ok9 get_snd (addT_snd ok11 set_snd (addT_snd ok13 pack_snd (addT_snd ok16 unpack_snd (addT_snd ok18 high_snd (addT_snd ok20 low_snd (addT_snd ok22 count_snd (addT_snd ok24 al_snd (noT_snd _))))))))
def awake1G : List V → List Blk → Res
  | [], h => .ok (.s (.b true)) [] h
  | _, _ => .bad
theorem awake1_snd : Snd Tryd.prog 8 (FSpec.of awake1G) := snd_run TA1_snd mixed Tryd.func8 dc8 300 fun args h K hc hS => by
  unfold awake1G at hS
  split at hS
  · simp only [spec_ok] at hS
    have a1 : fieldB 4 8 = true := by decide
    have a2 : getV 43981 4 8 = 188 := by decide
    have a3 : setB 4 8 0 = true := by decide
    have a4 : setV 65535 4 8 0 = 61455 := by decide
    have a5 : decF [.i .i64 4, .i .u64 3, .i .i64 8, .i .u64 1] = [⟨4, 3⟩, ⟨8, 1⟩] := rfl
    have a6 : packB (List.take 2 [⟨4, 3⟩, ⟨8, 1⟩]) 0 = true := by decide
    have a7 : packV (List.take 2 [⟨4, 3⟩, ⟨8, 1⟩]) 0 = 19 := by decide
    have a8 : decI [.i .i64 4, .i .i64 8] = [4, 8] := rfl
    have a9 : unpackB 19 (List.take 2 [4, 8]) 0 = true := by decide
    have aa : unpackV 19 (List.take 2 [4, 8]) 0 = [3, 1] := by decide
    have ab : fieldB 63 2 = false := by decide
    have b1 : u64 43981 := by simp only [u64]; omega
    have b2 : u64 65535 ∧ u64 0 := by simp only [u64]; omega
    have b3 : u64 19 := by simp only [u64]; omega
    have b4 : u64 1 := by simp only [u64]; omega
    have b5 : u64 144 := by simp only [u64]; omega
    have b6 : ∀ f : Fd, f ∈ [(⟨4, 3⟩ : Fd), ⟨8, 1⟩] → u64 f.v := by
      intro f hf
      simp only [List.mem_cons, List.not_mem_nil, or_false] at hf
      rcases hf with rfl | rfl <;> (simp only [u64]; omega)
    have nl : ¬ (h.length + 2 < h.length) := by omega
    have c1 : Lib.bitLen 144 = 8 := by decide
    have c2 : lowV 144 = 4 := by decide
    have c3 : Pop.ones 64 144 = 2 := by decide
    have c4 : alB 48 4 = true := by decide
    simp (config := { maxSteps := 10000000 }) only [run_drx, run_xd, run_xq, run_xg, run_xb, EV1, EV2, EV3, EV4, EV5, EV6, addT, istep, lenR_sl, lenR_ns, lenR_es, pickR, putD, bin1R, un1R, slcR, bnd, capsOf, fillP, S_plain, V_plain, V.cells, S_known, V_known, C.v, blk, setL, setH, eqS, eq1, cmpS, cmp1, isNil, popTo, killT, setT, leT, V.below, C.below, S_below, R.below, V.val, C.val, S_val, R.val, R.takes, vals, shows, List.any_cons, List.any_nil, unnamed, V.kill, V.names, C.names, S_names, R.names, List.set, List.replicate, ↓q_cond_t, ↓q_cond_f, if_true, if_false, reduceCtorEq, rvals, rvC, result, C_known, V.noL, C.noL, S_noL, R.noL, Option.map, true_and, and_true, ge_iff_le, gt_iff_lt, implies_true, q_ite_t, q_ite_f, beq_iff_eq, bne_iff_ne, q_ne, Nat.reduceAdd, Nat.reducePow, Int.reducePow, Nat.reduceMul, Nat.reduceSub, Nat.reduceLeDiff, Nat.reduceLT, Nat.reduceEqDiff, Int.reduceNeg, Int.reduceLT, Int.reduceLE, Int.reduceEq, Int.reduceNe, Int.reduceAdd, Int.reduceSub, Int.reduceMul, Int.reduceToNat, Int.reduceBEq, Int.reduceBNe, df8, TA1, getG, setG, packG, unpackG, highG, lowG, onesG, alG, a1, a2, a3, a4, a5, a6, a7, a8, a9, aa, ab, b1, b2, b3, b4, b5, c1, c2, c3, c4, b6, hc, wordsR, pairV, put, fillP, R.lend, R.unlend, S_ren, C.ren, V.ren, Blk.ren, take_app, drop_app, Nat.not_lt_zero, Nat.lt_irrefl, Nat.add_sub_cancel_left, Nat.not_lt, Nat.le_add_right, Fd.c, Ic, Uc, arr, true_or, or_true, nl]
    exact ⟨b6, fun c _ => hS⟩
  · exact hS.elim

def T1 : Tab := addT 8 awake1G (addT 9 getG (addT 11 setG (addT 18 highG (addT 20 lowG (addT 22 onesG (addT 24 alG (addT 10 getG (addT 12 setG (addT 19 highG (addT 21 lowG (addT 23 onesG (addT 25 alG noT))))))))))))
theorem T1_snd : T1.Snd Tryd.prog := addT_snd ok8 awake1_snd (addT_snd ok9 get_snd (addT_snd ok11 set_snd (addT_snd ok18 high_snd (addT_snd ok20 low_snd (addT_snd ok22 count_snd (addT_snd ok24 al_snd (addT_snd ok10 rget_snd (addT_snd ok12 rset_snd (addT_snd ok19 rhigh_snd (addT_snd ok21 rlow_snd (addT_snd ok23 rcount_snd (addT_snd ok25 ral_snd (noT_snd _)))))))))))))

def wordFieldsG : List V → List Blk → Res
  | [.agg [.i .u64 w, .i .i64 a, .i .i64 n, .i .u64 v]], h => .ob (u64 w ∧ u64 v) (.ok (.s (.b true)) [] h)
  | _, _ => .bad
theorem wordFields_snd : Snd Tryd.prog 3 (FSpec.of wordFieldsG) := snd_run T1_snd mixed Tryd.func3 dc3 300 fun args h K hc hS => by
  unfold wordFieldsG at hS
  split at hS
  · rename_i w a n v
    obtain ⟨⟨hw, hv⟩, hS⟩ := hS
    simp only [spec_ok] at hS
    cases hf : fieldB a n <;> cases hs : setB a n v
    all_goals simp (config := { maxSteps := 10000000 }) only [run_drx, run_xd, run_xq, run_xg, run_xb, EV1, EV2, EV3, EV4, EV5, EV6, addT, istep, lenR_sl, lenR_ns, lenR_es, pickR, putD, bin1R, un1R, slcR, bnd, capsOf, fillP, S_plain, V_plain, V.cells, S_known, V_known, C.v, blk, setL, setH, eqS, eq1, cmpS, cmp1, isNil, popTo, killT, setT, leT, V.below, C.below, S_below, R.below, V.val, C.val, S_val, R.val, R.takes, vals, shows, List.any_cons, List.any_nil, unnamed, V.kill, V.names, C.names, S_names, R.names, List.set, List.replicate, ↓q_cond_t, ↓q_cond_f, if_true, if_false, reduceCtorEq, rvals, rvC, result, C_known, V.noL, C.noL, S_noL, R.noL, Option.map, true_and, and_true, ge_iff_le, gt_iff_lt, implies_true, q_ite_t, q_ite_f, beq_iff_eq, bne_iff_ne, q_ne, Nat.reduceAdd, Nat.reducePow, Int.reducePow, Nat.reduceMul, Nat.reduceSub, Nat.reduceLeDiff, Nat.reduceLT, Nat.reduceEqDiff, Int.reduceNeg, Int.reduceLT, Int.reduceLE, Int.reduceEq, Int.reduceNe, Int.reduceAdd, Int.reduceSub, Int.reduceMul, Int.reduceToNat, Int.reduceBEq, Int.reduceBNe, df3, T1, awake1G, getG, setG, hf, hs, hw, hv, put, fillP, sub, List.drop, List.take]
    all_goals exact hS
  · exact hS.elim

def wordBitsG : List V → List Blk → Res
  | [.s (.i .u64 w), .s (.i .i64 n), .s (.i .i64 b)], h => .ob (u64 w ∧ n ≤ 9223372036854775807) (.ok (.s (.b true)) [] h)
  | _, _ => .bad
theorem wordBits_snd : Snd Tryd.prog 5 (FSpec.of wordBitsG) := snd_run T1_snd mixed Tryd.func5 dc5 300 fun args h K hc hS => by
  unfold wordBitsG at hS
  split at hS
  · rename_i w n b
    obtain ⟨⟨hw, hn⟩, hS⟩ := hS
    simp only [spec_ok] at hS
    simp (config := { maxSteps := 10000000 }) only [run_drx, run_xd, run_xq, run_xg, run_xb, EV1, EV2, EV3, EV4, EV5, EV6, addT, istep, lenR_sl, lenR_ns, lenR_es, pickR, putD, bin1R, un1R, slcR, bnd, capsOf, fillP, S_plain, V_plain, V.cells, S_known, V_known, C.v, blk, setL, setH, eqS, eq1, cmpS, cmp1, isNil, popTo, killT, setT, leT, V.below, C.below, S_below, R.below, V.val, C.val, S_val, R.val, R.takes, vals, shows, List.any_cons, List.any_nil, unnamed, V.kill, V.names, C.names, S_names, R.names, List.set, List.replicate, ↓q_cond_t, ↓q_cond_f, if_true, if_false, reduceCtorEq, rvals, rvC, result, C_known, V.noL, C.noL, S_noL, R.noL, Option.map, true_and, and_true, ge_iff_le, gt_iff_lt, implies_true, q_ite_t, q_ite_f, beq_iff_eq, bne_iff_ne, q_ne, Nat.reduceAdd, Nat.reducePow, Int.reducePow, Nat.reduceMul, Nat.reduceSub, Nat.reduceLeDiff, Nat.reduceLT, Nat.reduceEqDiff, Int.reduceNeg, Int.reduceLT, Int.reduceLE, Int.reduceEq, Int.reduceNe, Int.reduceAdd, Int.reduceSub, Int.reduceMul, Int.reduceToNat, Int.reduceBEq, Int.reduceBNe, df5, T1, awake1G, highG, lowG, onesG, alG, hw, hn]
    exact hS
  · exact hS.elim

end Go.Proofs.YtmchhjjdlcmhoaaDoor

/- Law 01: WordKeeps. -/
namespace Go.Proofs.YtmchhjjdlcmhoaaDoor
open Go.D
set_option linter.all false
set_option maxRecDepth 100000
set_option maxHeartbeats 4000000

theorem set_get {w k m v : Nat} (hv : v < 2 ^ m) : setN w k m v / 2 ^ k % 2 ^ m = v := by
  have e : setN w k m v = 2 ^ k * (2 ^ m * (w / 2 ^ (k + m)) + v) + w % 2 ^ k := by
    rw [setN, Nat.pow_add, Nat.mul_add, Nat.mul_assoc]; omega
  rw [e, Nat.mul_add_div (Nat.two_pow_pos k), Nat.div_eq_of_lt (Nat.mod_lt w (Nat.two_pow_pos k)), Nat.add_zero, Nat.mul_add_mod, Nat.mod_eq_of_lt hv]
theorem set_other {w k m v t r : Nat} (hv : v < 2 ^ m) (h : k + m ≤ t ∨ t + r ≤ k) : setN w k m v / 2 ^ t % 2 ^ r = w / 2 ^ t % 2 ^ r := by
  apply Nat.eq_of_testBit_eq
  intro j
  rw [Nat.testBit_mod_two_pow, Nat.testBit_mod_two_pow, Nat.testBit_div_two_pow, Nat.testBit_div_two_pow]
  by_cases hj : j < r
  · have := set_bit (w := w) (k := k) hv (j + t)
    rw [if_neg (by omega), bit_test, bit_test] at this
    simp [hj, this]
  · simp [hj]

def wordKeepsG : List V → List Blk → Res
  | [.agg [.i .u64 w, .i .i64 a, .i .i64 n, .i .u64 v, .i .i64 t, .i .i64 r]], h => .ob (u64 w ∧ u64 v) (.ok (.s (.b true)) [] h)
  | _, _ => .bad
theorem wordKeeps_snd : Snd Tryd.prog 6 (FSpec.of wordKeepsG) := snd_run T1_snd mixed Tryd.func6 dc6 300 fun args h K hc hS => by
  unfold wordKeepsG at hS
  split at hS
  · rename_i w a n v t r
    obtain ⟨⟨hw, hv⟩, hS⟩ := hS
    simp only [spec_ok] at hS
    cases hs : setB a n v with
    | true =>
      have hs2 := hs
      simp only [setB, Bool.and_eq_true, decide_eq_true_eq] at hs2
      obtain ⟨hf, hlt⟩ := hs2
      obtain ⟨k, m, rfl, rfl, h1, h2, h3⟩ := fieldB_nat hf
      obtain ⟨w, rfl, hw'⟩ := hw.nat
      obtain ⟨v, rfl, hv'⟩ := hv.nat
      rw [Int.toNat_natCast, Int.toNat_natCast] at hlt
      have hu := u64_of (set_lt hw' hlt h3)
      have g1 : getV ((setN w k m v : Nat) : Int) (k : Int) (m : Int) = (v : Int) := by
        simp only [getV, Int.toNat_natCast]
        rw [set_get hlt]
      have e1 := setV_eq w k m v
      cases hg : fieldB t r with
      | true =>
        obtain ⟨t, r, rfl, rfl, q1, q2, q3⟩ := fieldB_nat hg
        have w1 : IntKind.i64.wrap ((k : Int) + (m : Int)) = (k : Int) + m := by rw [wrap64] <;> omega
        have w2 : IntKind.i64.wrap ((t : Int) + (r : Int)) = (t : Int) + r := by rw [wrap64] <;> omega
        have g2 : (k : Int) + m ≤ t ∨ (t : Int) + r ≤ k → getV ((setN w k m v : Nat) : Int) (t : Int) (r : Int) = getV (w : Int) (t : Int) (r : Int) := fun h => by
          simp only [getV, Int.toNat_natCast]
          rw [set_other hlt (by omega)]
        simp (config := { maxSteps := 10000000 }) only [run_drx, run_xd, run_xq, run_xg, run_xb, EV1, EV2, EV3, EV4, EV5, EV6, addT, istep, lenR_sl, lenR_ns, lenR_es, pickR, putD, bin1R, un1R, slcR, bnd, capsOf, fillP, S_plain, V_plain, V.cells, S_known, V_known, C.v, blk, setL, setH, eqS, eq1, cmpS, cmp1, isNil, popTo, killT, setT, leT, V.below, C.below, S_below, R.below, V.val, C.val, S_val, R.val, R.takes, vals, shows, List.any_cons, List.any_nil, unnamed, V.kill, V.names, C.names, S_names, R.names, List.set, List.replicate, ↓q_cond_t, ↓q_cond_f, if_true, if_false, reduceCtorEq, rvals, rvC, result, C_known, V.noL, C.noL, S_noL, R.noL, Option.map, true_and, and_true, ge_iff_le, gt_iff_lt, implies_true, q_ite_t, q_ite_f, beq_iff_eq, bne_iff_ne, q_ne, Nat.reduceAdd, Nat.reducePow, Int.reducePow, Nat.reduceMul, Nat.reduceSub, Nat.reduceLeDiff, Nat.reduceLT, Nat.reduceEqDiff, Int.reduceNeg, Int.reduceLT, Int.reduceLE, Int.reduceEq, Int.reduceNe, Int.reduceAdd, Int.reduceSub, Int.reduceMul, Int.reduceToNat, Int.reduceBEq, Int.reduceBNe, df6, T1, awake1G, getG, setG, hf, hs, hw, hv, hg, e1, hu, g1, w1, w2, put, fillP, sub, List.drop, List.take]
        exact ⟨fun h => by rw [g2 h, beq_self_eq_true]; exact hS, fun _ => hS⟩
      | false =>
        simp (config := { maxSteps := 10000000 }) only [run_drx, run_xd, run_xq, run_xg, run_xb, EV1, EV2, EV3, EV4, EV5, EV6, addT, istep, lenR_sl, lenR_ns, lenR_es, pickR, putD, bin1R, un1R, slcR, bnd, capsOf, fillP, S_plain, V_plain, V.cells, S_known, V_known, C.v, blk, setL, setH, eqS, eq1, cmpS, cmp1, isNil, popTo, killT, setT, leT, V.below, C.below, S_below, R.below, V.val, C.val, S_val, R.val, R.takes, vals, shows, List.any_cons, List.any_nil, unnamed, V.kill, V.names, C.names, S_names, R.names, List.set, List.replicate, ↓q_cond_t, ↓q_cond_f, if_true, if_false, reduceCtorEq, rvals, rvC, result, C_known, V.noL, C.noL, S_noL, R.noL, Option.map, true_and, and_true, ge_iff_le, gt_iff_lt, implies_true, q_ite_t, q_ite_f, beq_iff_eq, bne_iff_ne, q_ne, Nat.reduceAdd, Nat.reducePow, Int.reducePow, Nat.reduceMul, Nat.reduceSub, Nat.reduceLeDiff, Nat.reduceLT, Nat.reduceEqDiff, Int.reduceNeg, Int.reduceLT, Int.reduceLE, Int.reduceEq, Int.reduceNe, Int.reduceAdd, Int.reduceSub, Int.reduceMul, Int.reduceToNat, Int.reduceBEq, Int.reduceBNe, df6, T1, awake1G, getG, setG, hf, hs, hw, hv, hg, e1, hu, g1, put, fillP, sub, List.drop, List.take]
        exact hS
    | false =>
      simp (config := { maxSteps := 10000000 }) only [run_drx, run_xd, run_xq, run_xg, run_xb, EV1, EV2, EV3, EV4, EV5, EV6, addT, istep, lenR_sl, lenR_ns, lenR_es, pickR, putD, bin1R, un1R, slcR, bnd, capsOf, fillP, S_plain, V_plain, V.cells, S_known, V_known, C.v, blk, setL, setH, eqS, eq1, cmpS, cmp1, isNil, popTo, killT, setT, leT, V.below, C.below, S_below, R.below, V.val, C.val, S_val, R.val, R.takes, vals, shows, List.any_cons, List.any_nil, unnamed, V.kill, V.names, C.names, S_names, R.names, List.set, List.replicate, ↓q_cond_t, ↓q_cond_f, if_true, if_false, reduceCtorEq, rvals, rvC, result, C_known, V.noL, C.noL, S_noL, R.noL, Option.map, true_and, and_true, ge_iff_le, gt_iff_lt, implies_true, q_ite_t, q_ite_f, beq_iff_eq, bne_iff_ne, q_ne, Nat.reduceAdd, Nat.reducePow, Int.reducePow, Nat.reduceMul, Nat.reduceSub, Nat.reduceLeDiff, Nat.reduceLT, Nat.reduceEqDiff, Int.reduceNeg, Int.reduceLT, Int.reduceLE, Int.reduceEq, Int.reduceNe, Int.reduceAdd, Int.reduceSub, Int.reduceMul, Int.reduceToNat, Int.reduceBEq, Int.reduceBNe, df6, T1, awake1G, getG, setG, hs, hw, hv, put, fillP, sub, List.drop, List.take]
      exact hS
  · exact hS.elim

end Go.Proofs.YtmchhjjdlcmhoaaDoor

