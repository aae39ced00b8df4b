/- Cspace: the document's bits. -/
import Derived.Test.YtdlloccodmdnnaaZ10
import Derived.Test.YtdlloccodmdnnaaZ22
/- Cspace: take; the document's bits. -/
namespace Go.Proofs.Ytdlloccodmdnnaa
open Go.D
set_option linter.all false
set_option maxRecDepth 100000
set_option maxHeartbeats 4000000

/-- Some bits of a number that are left. -/
def takeG : List V → List Blk → Res
  | [.s (.p (.g k) 0), .s (.i .i64 n)], h => match h[k]? with
    | some ⟨.rw, [.i .u64 w, .i .i64 l], 2⟩ => .ob (u64 w ∧ 0 ≤ n ∧ n ≤ 31 ∧ 0 ≤ l ∧ l ≤ 32) (.br (decide (l < n)) (.ok (.tup [.s (.i .i64 0), .s (.b false)]) [] h)
        (.ok (.tup [.s (.i .i64 (someB w (l - n) n)), .s (.b true)]) [] (h.set k ⟨.rw, [.i .u64 w, .i .i64 (l - n)], 2⟩)))
    | _ => .bad
  | _, _ => .bad
theorem mask_eq {n : Nat} (hn : n ≤ 31) : IntKind.u64.wrap (IntKind.u64.wrap (1 * 2 ^ min n IntKind.u64.bits) - 1) = ((2 ^ n - 1 : Nat) : Int) := by
  have : ∀ k : Fin 32, IntKind.u64.wrap (IntKind.u64.wrap (1 * 2 ^ min k.val IntKind.u64.bits) - 1) = ((2 ^ k.val - 1 : Nat) : Int) := by decide +kernel
  exact this ⟨n, by omega⟩
theorem someB_nat {w : Nat} {l n : Nat} : someB (w : Int) (l : Int) (n : Int) = ((w / 2 ^ l % 2 ^ n : Nat) : Int) := by
  simp [someB]
theorem someB_lt {w l n : Int} (hn : 0 ≤ n ∧ n ≤ 31) : 0 ≤ someB w l n ∧ someB w l n < 2147483648 := by
  unfold someB
  have h0 : ∀ j : Fin 32, (2 : Int) ^ j.val ≤ 2147483648 := by decide
  have h2 : (2 : Int) ^ n.toNat ≤ 2147483648 := h0 ⟨n.toNat, by omega⟩
  have h3 : (0 : Int) < 2 ^ n.toNat := Int.pow_pos (by omega)
  have := Int.emod_nonneg (w / 2 ^ l.toNat) (Int.ne_of_gt h3)
  have := Int.emod_lt_of_pos (w / 2 ^ l.toNat) h3
  omega
theorem take_snd : Snd Try.prog 56 (FSpec.of takeG) := snd_run (noT_snd _) mixed Try.func56 dc56 100 fun args h K _ hS => by
  unfold takeG at hS
  split at hS
  · rename_i k n
    split at hS
    · rename_i w l hk
      obtain ⟨⟨hw, h1, h2, h3, h4⟩, hS⟩ := hS
      simp only [spec_br, spec_ok] at hS
      by_cases hl : l < n
      · have hS := hS.1 (by simpa using hl)
        simp (config := { maxSteps := 10000000 }) only [EV1, EV2, EV3, EV4, EV5, EV6, addT, istep, lenR_sl, lenR_ns, lenR_es, pickR, putD, bin1R, un1R, slcR, bnd, capsOf, fillP, S_plain, V_plain, V.cells, S_known, V_known, C.v, blk, setL, setH, eqS, eq1, cmpS, cmp1, isNil, popTo, killT, setT, leT, V.below, C.below, S_below, R.below, V.val, C.val, S_val, R.val, R.takes, vals, shows, List.any_cons, List.any_nil, unnamed, V.kill, V.names, C.names, S_names, R.names, List.set, List.replicate, ↓q_cond_t, ↓q_cond_f, if_true, if_false, reduceCtorEq, rvals, rvC, result, C_known, V.noL, C.noL, S_noL, R.noL, Option.map, true_and, and_true, ge_iff_le, gt_iff_lt, implies_true, q_ite_t, q_ite_f, beq_iff_eq, bne_iff_ne, q_ne, Nat.reduceAdd, Nat.reducePow, Int.reducePow, Nat.reduceMul, Nat.reduceSub, Nat.reduceLeDiff, Nat.reduceLT, Nat.reduceEqDiff, Int.reduceNeg, Int.reduceLT, Int.reduceLE, Int.reduceEq, Int.reduceNe, Int.reduceAdd, Int.reduceSub, Int.reduceMul, Int.reduceToNat, Int.reduceBEq, Int.reduceBNe, df56, hk, hl]
        exact hS
      · have hS := hS.2 (by simpa using hl)
        obtain ⟨a, rfl⟩ : ∃ a : Nat, n = a := ⟨n.toNat, by omega⟩
        obtain ⟨b, hb⟩ : ∃ b : Nat, l - (a : Int) = b := ⟨(l - a).toNat, by omega⟩
        obtain ⟨w, rfl, hw'⟩ := hw.nat
        rw [hb] at hS
        have w1 : IntKind.i64.wrap (l - (a : Int)) = b := by rw [wrap64 (by omega) (by omega), hb]
        have c1 : (0 : Int) ≤ b := by omega
        have c2 : (0 : Int) ≤ a := by omega
        have m1 : min b IntKind.u64.bits = b := by show min b 64 = _; omega
        have m2 := mask_eq (n := a) (by omega)
        have m3 : bits .and .u64 ((w : Int) / 2 ^ b) ((2 ^ a - 1 : Nat) : Int) = someB w b a := by
          rw [u64_and_mask' (k := a) _ (by omega) rfl]
          · simp [someB]
          · have : ((w : Int) / 2 ^ b) = ((w / 2 ^ b : Nat) : Int) := by simp
            rw [this]
            have h5 := Nat.div_le_self w (2 ^ b)
            generalize w / 2 ^ b = q at h5 ⊢
            exact ⟨by omega, by omega⟩
        have m4 : IntKind.i64.wrap (someB w b a) = someB w b a := by
          have := someB_lt (w := w) (l := b) (n := a) ⟨by omega, by omega⟩
          exact wrap64 (by omega) (by omega)
        simp (config := { maxSteps := 10000000 }) only [EV1, EV2, EV3, EV4, EV5, EV6, addT, istep, lenR_sl, lenR_ns, lenR_es, pickR, putD, bin1R, un1R, slcR, bnd, capsOf, fillP, S_plain, V_plain, V.cells, S_known, V_known, C.v, blk, setL, setH, eqS, eq1, cmpS, cmp1, isNil, popTo, killT, setT, leT, V.below, C.below, S_below, R.below, V.val, C.val, S_val, R.val, R.takes, vals, shows, List.any_cons, List.any_nil, unnamed, V.kill, V.names, C.names, S_names, R.names, List.set, List.replicate, ↓q_cond_t, ↓q_cond_f, if_true, if_false, reduceCtorEq, rvals, rvC, result, C_known, V.noL, C.noL, S_noL, R.noL, Option.map, true_and, and_true, ge_iff_le, gt_iff_lt, implies_true, q_ite_t, q_ite_f, beq_iff_eq, bne_iff_ne, q_ne, Nat.reduceAdd, Nat.reducePow, Int.reducePow, Nat.reduceMul, Nat.reduceSub, Nat.reduceLeDiff, Nat.reduceLT, Nat.reduceEqDiff, Int.reduceNeg, Int.reduceLT, Int.reduceLE, Int.reduceEq, Int.reduceNe, Int.reduceAdd, Int.reduceSub, Int.reduceMul, Int.reduceToNat, Int.reduceBEq, Int.reduceBNe, df56, hk, hl, w1, c1, c2, m1, m2, m3, m4, put, set_hit hk, List.set_set]
        exact hS
    · exact hS.elim
  · exact hS.elim
end Go.Proofs.Ytdlloccodmdnnaa

/- Cspace: the document's bits. -/
namespace Go.Proofs.Ytdlloccodmdnnaa
open Go.D
set_option linter.all false
set_option maxRecDepth 100000
set_option maxHeartbeats 4000000

def bitsG : List V → List Blk → Res
  | [.s (.i .u64 w), .s (.i .i64 l), .s (.i .i64 n)], h => .ob (u64 w ∧ 0 ≤ n ∧ n ≤ 31 ∧ 0 ≤ l ∧ l ≤ 32) (.ok (.s (.i .i64 (someB w l n))) [] h)
  | _, _ => .bad
theorem someB_step {w p k : Nat} : 2 * (w / 2 ^ (p + 1) % 2 ^ k) + w / 2 ^ p % 2 = w / 2 ^ p % 2 ^ (k + 1) := by
  rw [Nat.pow_succ (n := 2) (m := k), Nat.mul_comm (2 ^ k) 2, Nat.mod_mul, Nat.div_div_eq_div_mul, Nat.pow_succ (n := 2) (m := p)]
  exact Nat.add_comm _ _
theorem rbits_snd : Snd Try.prog 59 (FSpec.of bitsG) := snd_run (noT_snd _) mixed Try.func59 dc59 100 fun args h K _ hS => by
  unfold bitsG at hS
  split at hS
  · rename_i w l n
    obtain ⟨⟨hw, h1, h2, h3, h4⟩, hS⟩ := hS
    simp only [spec_ok] at hS
    obtain ⟨a, rfl⟩ : ∃ a : Nat, n = a := ⟨n.toNat, by omega⟩
    obtain ⟨b, rfl⟩ : ∃ b : Nat, l = b := ⟨l.toNat, by omega⟩
    obtain ⟨w, rfl, hw'⟩ := hw.nat
    have w0 : IntKind.i64.wrap ((a : Int) - 1) = (a : Int) - 1 := wrap64 (by omega) (by omega)
    simp (config := { maxSteps := 10000000 }) only [EV1, EV2, EV3, EV4, EV5, EV6, addT, istep, lenR_sl, lenR_ns, lenR_es, pickR, putD, bin1R, un1R, slcR, bnd, capsOf, fillP, S_plain, V_plain, V.cells, S_known, V_known, C.v, blk, setL, setH, eqS, eq1, cmpS, cmp1, isNil, popTo, killT, setT, leT, V.below, C.below, S_below, R.below, V.val, C.val, S_val, R.val, R.takes, vals, shows, List.any_cons, List.any_nil, unnamed, V.kill, V.names, C.names, S_names, R.names, List.set, List.replicate, ↓q_cond_t, ↓q_cond_f, if_true, if_false, reduceCtorEq, rvals, rvC, result, C_known, V.noL, C.noL, S_noL, R.noL, Option.map, true_and, and_true, ge_iff_le, gt_iff_lt, implies_true, q_ite_t, q_ite_f, beq_iff_eq, bne_iff_ne, q_ne, Nat.reduceAdd, Nat.reducePow, Int.reducePow, Nat.reduceMul, Nat.reduceSub, Nat.reduceLeDiff, Nat.reduceLT, Nat.reduceEqDiff, Int.reduceNeg, Int.reduceLT, Int.reduceLE, Int.reduceEq, Int.reduceNe, Int.reduceAdd, Int.reduceSub, Int.reduceMul, Int.reduceToNat, Int.reduceBEq, Int.reduceBNe, df59, w0]
    refine loop_rule (α := Nat) [7, 8, 11, 12, 13, 14, 15, 16, 17, 18, 19, 20, 21, 22, 23, 24] (fun r => [(7, .s (.i .i64 ((w / 2 ^ (b + r) % 2 ^ (a - r) : Nat) : Int))), (8, .s (.i .i64 ((r : Int) - 1)))]) (fun _ => []) (fun _ => h) (fun r => r ≤ a) (fun r => r) a (Nat.le_refl _) ?_ ?_
    · have e0 : ((w / 2 ^ (b + a) % 2 ^ (a - a) : Nat) : Int) = 0 := by rw [Nat.sub_self, Nat.pow_zero, Nat.mod_one]; rfl
      refine Wk.same rfl rfl ?_
      simp (config := { maxSteps := 10000000 }) only [EV1, EV2, EV3, EV4, EV5, EV6, addT, istep, lenR_sl, lenR_ns, lenR_es, pickR, putD, bin1R, un1R, slcR, bnd, capsOf, fillP, S_plain, V_plain, V.cells, S_known, V_known, C.v, blk, setL, setH, eqS, eq1, cmpS, cmp1, isNil, popTo, killT, setT, leT, V.below, C.below, S_below, R.below, V.val, C.val, S_val, R.val, R.takes, vals, shows, List.any_cons, List.any_nil, unnamed, V.kill, V.names, C.names, S_names, R.names, List.set, List.replicate, ↓q_cond_t, ↓q_cond_f, if_true, if_false, reduceCtorEq, rvals, rvC, result, C_known, V.noL, C.noL, S_noL, R.noL, Option.map, true_and, and_true, ge_iff_le, gt_iff_lt, implies_true, q_ite_t, q_ite_f, beq_iff_eq, bne_iff_ne, q_ne, Nat.reduceAdd, Nat.reducePow, Int.reducePow, Nat.reduceMul, Nat.reduceSub, Nat.reduceLeDiff, Nat.reduceLT, Nat.reduceEqDiff, Int.reduceNeg, Int.reduceLT, Int.reduceLE, Int.reduceEq, Int.reduceNe, Int.reduceAdd, Int.reduceSub, Int.reduceMul, Int.reduceToNat, Int.reduceBEq, Int.reduceBNe, e0]
    · intro X r hr IH
      cases r with
      | zero =>
        have g0 : ¬ (0 : Int) ≤ ((0 : Nat) : Int) - 1 := by omega
        have e0 : ((w / 2 ^ (b + 0) % 2 ^ (a - 0) : Nat) : Int) = someB w b a := by rw [someB_nat]; rfl
        obtain ⟨i, hi⟩ : ∃ i : Int, ((0 : Nat) : Int) - 1 = i := ⟨_, rfl⟩
        rw [hi] at g0
        refine run_sound (Tab.ok_Γ _) 100 _ _ _ _ ?_
        simp (config := { maxSteps := 10000000 }) only [EV1, EV2, EV3, EV4, EV5, EV6, addT, istep, lenR_sl, lenR_ns, lenR_es, pickR, putD, bin1R, un1R, slcR, bnd, capsOf, fillP, S_plain, V_plain, V.cells, S_known, V_known, C.v, blk, setL, setH, eqS, eq1, cmpS, cmp1, isNil, popTo, killT, setT, leT, V.below, C.below, S_below, R.below, V.val, C.val, S_val, R.val, R.takes, vals, shows, List.any_cons, List.any_nil, unnamed, V.kill, V.names, C.names, S_names, R.names, List.set, List.replicate, ↓q_cond_t, ↓q_cond_f, if_true, if_false, reduceCtorEq, rvals, rvC, result, C_known, V.noL, C.noL, S_noL, R.noL, Option.map, true_and, and_true, ge_iff_le, gt_iff_lt, implies_true, q_ite_t, q_ite_f, beq_iff_eq, bne_iff_ne, q_ne, Nat.reduceAdd, Nat.reducePow, Int.reducePow, Nat.reduceMul, Nat.reduceSub, Nat.reduceLeDiff, Nat.reduceLT, Nat.reduceEqDiff, Int.reduceNeg, Int.reduceLT, Int.reduceLE, Int.reduceEq, Int.reduceNe, Int.reduceAdd, Int.reduceSub, Int.reduceMul, Int.reduceToNat, Int.reduceBEq, Int.reduceBNe, hi, g0, e0]
        exact hS
      | succ q =>
        have g0 : (0 : Int) ≤ (q : Int) := by omega
        have hi : ((q + 1 : Nat) : Int) - 1 = q := by omega
        have k1 := someB_step (w := w) (p := b + q) (k := a - (q + 1))
        have k2 : w / 2 ^ (b + (q + 1)) % 2 ^ (a - (q + 1)) < 2 ^ 31 := Nat.lt_of_lt_of_le (Nat.mod_lt _ (Nat.two_pow_pos _)) (Nat.pow_le_pow_right (by omega) (by omega))
        rw [show b + q + 1 = b + (q + 1) by omega, show a - (q + 1) + 1 = a - q by omega] at k1
        obtain ⟨x, hx⟩ : ∃ x, w / 2 ^ (b + (q + 1)) % 2 ^ (a - (q + 1)) = x := ⟨_, rfl⟩
        rw [hx] at k1 k2
        have w1 : IntKind.i64.wrap (2 * (x : Int)) = 2 * (x : Int) := wrap64 (by omega) (by omega)
        have w2 : IntKind.i64.wrap ((b : Int) + (q : Int)) = ((b + q : Nat) : Int) := by rw [wrap64] <;> omega
        have w4 : IntKind.i64.wrap ((q : Int) - 1) = (q : Int) - 1 := wrap64 (by omega) (by omega)
        have m1 : min (b + q) IntKind.u64.bits = b + q := by show min (b + q) 64 = _; omega
        have d1 : (0 : Int) ≤ ((b + q : Nat) : Int) := by omega
        have m3 : bits .and .u64 ((w : Int) / 2 ^ (b + q)) 1 = ((w / 2 ^ (b + q) % 2 : Nat) : Int) := by
          rw [u64_and_mask' (k := 1) _ (by omega) (by decide)]
          · simp
          · have : ((w : Int) / 2 ^ (b + q)) = ((w / 2 ^ (b + q) : Nat) : Int) := by simp
            rw [this]
            have h5 := Nat.div_le_self w (2 ^ (b + q))
            generalize w / 2 ^ (b + q) = p at h5 ⊢
            exact ⟨by omega, by omega⟩
        have w3 : IntKind.i64.wrap ((w / 2 ^ (b + q) % 2 : Nat) : Int) = ((w / 2 ^ (b + q) % 2 : Nat) : Int) := wrap64 (by omega) (by omega)
        have w5 : IntKind.i64.wrap (2 * (x : Int) + ((w / 2 ^ (b + q) % 2 : Nat) : Int)) = ((w / 2 ^ (b + q) % 2 ^ (a - q) : Nat) : Int) := by rw [wrap64] <;> omega
        refine run_sound (Tab.ok_Γ _) 100 _ _ _ _ ?_
        simp (config := { maxSteps := 10000000 }) only [EV1, EV2, EV3, EV4, EV5, EV6, addT, istep, lenR_sl, lenR_ns, lenR_es, pickR, putD, bin1R, un1R, slcR, bnd, capsOf, fillP, S_plain, V_plain, V.cells, S_known, V_known, C.v, blk, setL, setH, eqS, eq1, cmpS, cmp1, isNil, popTo, killT, setT, leT, V.below, C.below, S_below, R.below, V.val, C.val, S_val, R.val, R.takes, vals, shows, List.any_cons, List.any_nil, unnamed, V.kill, V.names, C.names, S_names, R.names, List.set, List.replicate, ↓q_cond_t, ↓q_cond_f, if_true, if_false, reduceCtorEq, rvals, rvC, result, C_known, V.noL, C.noL, S_noL, R.noL, Option.map, true_and, and_true, ge_iff_le, gt_iff_lt, implies_true, q_ite_t, q_ite_f, beq_iff_eq, bne_iff_ne, q_ne, Nat.reduceAdd, Nat.reducePow, Int.reducePow, Nat.reduceMul, Nat.reduceSub, Nat.reduceLeDiff, Nat.reduceLT, Nat.reduceEqDiff, Int.reduceNeg, Int.reduceLT, Int.reduceLE, Int.reduceEq, Int.reduceNe, Int.reduceAdd, Int.reduceSub, Int.reduceMul, Int.reduceToNat, Int.reduceBEq, Int.reduceBNe, hi, hx, g0, w1, w2, w3, w4, w5, m1, m3, d1]
        exact IH q _ (by omega) (by omega) (Wk.same rfl rfl (by simp (config := { maxSteps := 10000000 }) only [EV1, EV2, EV3, EV4, EV5, EV6, addT, istep, lenR_sl, lenR_ns, lenR_es, pickR, putD, bin1R, un1R, slcR, bnd, capsOf, fillP, S_plain, V_plain, V.cells, S_known, V_known, C.v, blk, setL, setH, eqS, eq1, cmpS, cmp1, isNil, popTo, killT, setT, leT, V.below, C.below, S_below, R.below, V.val, C.val, S_val, R.val, R.takes, vals, shows, List.any_cons, List.any_nil, unnamed, V.kill, V.names, C.names, S_names, R.names, List.set, List.replicate, ↓q_cond_t, ↓q_cond_f, if_true, if_false, reduceCtorEq, rvals, rvC, result, C_known, V.noL, C.noL, S_noL, R.noL, Option.map, true_and, and_true, ge_iff_le, gt_iff_lt, implies_true, q_ite_t, q_ite_f, beq_iff_eq, bne_iff_ne, q_ne, Nat.reduceAdd, Nat.reducePow, Int.reducePow, Nat.reduceMul, Nat.reduceSub, Nat.reduceLeDiff, Nat.reduceLT, Nat.reduceEqDiff, Int.reduceNeg, Int.reduceLT, Int.reduceLE, Int.reduceEq, Int.reduceNe, Int.reduceAdd, Int.reduceSub, Int.reduceMul, Int.reduceToNat, Int.reduceBEq, Int.reduceBNe]))
  · exact hS.elim
end Go.Proofs.Ytdlloccodmdnnaa

