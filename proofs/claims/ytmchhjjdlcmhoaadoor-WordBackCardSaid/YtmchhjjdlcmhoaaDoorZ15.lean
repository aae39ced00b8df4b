/- Package word: Unpack's law. -/
import Derived.Test.YtmchhjjdlcmhoaaDoorZ12
import Derived.Test.YtmchhjjdlcmhoaaDoorZ14
/- Package word: Pack, Unpack. -/
namespace Go.Proofs.YtmchhjjdlcmhoaaDoor
open Go.D
set_option linter.all false
set_option maxRecDepth 100000
set_option maxHeartbeats 4000000

structure Fd where
  b : Int
  v : Int
def Fd.c (f : Fd) : List S := [.i .i64 f.b, .i .u64 f.v]
theorem Fd.c_len (f : Fd) : f.c.length = 2 := rfl
def Fd.z : Fd := ⟨0, 0⟩
def decF : List S → List Fd
  | .i _ b :: .i _ v :: s => ⟨b, v⟩ :: decF s
  | _ => []
/-- Fields, laid one behind the other. -/
def packB : List Fd → Int → Bool
  | [], _ => true
  | f :: L, at_ => setB at_ f.b f.v && packB L (at_ + f.b)
def packV : List Fd → Int → Int
  | [], _ => 0
  | f :: L, at_ => ((2 ^ at_.toNat * f.v.toNat : Nat) : Int) + packV L (at_ + f.b)

theorem setV_low {w k m v : Nat} (hw : w < 2 ^ k) : setV (w : Int) (k : Int) (m : Int) (v : Int) = ((w + 2 ^ k * v : Nat) : Int) := by
  have h1 : w < 2 ^ (k + m) := Nat.lt_of_lt_of_le hw (Nat.pow_le_pow_right (by decide) (by omega))
  simp only [setV, Int.toNat_natCast, Nat.div_eq_of_lt h1, Nat.mod_eq_of_lt hw, Nat.mul_zero, Nat.zero_add]
  rw [Nat.add_comm]

theorem low_step {w k m v : Nat} (hw : w < 2 ^ k) (hv : v < 2 ^ m) : w + 2 ^ k * v < 2 ^ (k + m) := by
  have : 2 ^ k * (v + 1) ≤ 2 ^ k * 2 ^ m := Nat.mul_le_mul_left _ hv
  rw [← Nat.pow_add, Nat.mul_add] at this
  omega

def packG : List V → List Blk → Res
  | [.s .ns], h => .ok (.tup [.s (.i .u64 0), .s (.i .i64 0)]) [] h
  | [.s (.sl (.g k) 0 n _)], h => match h[k]? with
    | some B => .ob (B.st ≠ .dead ∧ B.cells = arr Fd.c (decF B.cells) ∧ n ≤ (decF B.cells).length ∧ n ≤ 9223372036854775807 ∧ ∀ f, f ∈ decF B.cells → u64 f.v)
      (.br (packB ((decF B.cells).take n) 0) (.ok (.tup [.s (.i .u64 (packV ((decF B.cells).take n) 0)), .s (.i .i64 0)]) [] h) (.ok (.tup [.s (.i .u64 0), .s (.i .i64 10)]) [] h))
    | none => .bad
  | _, _ => .bad

def W2 : Tab := addT 11 setG (addT 9 getG noT)
theorem W2_snd : W2.Snd Tryd.prog := addT_snd ok11 set_snd (addT_snd ok9 get_snd (noT_snd _))

theorem pack_snd : Snd Tryd.prog 13 (FSpec.of packG) := snd_run W2_snd mixed Tryd.func13 dc13 100 fun args h K _ hS => by
  unfold packG at hS
  split at hS
  · rw [spec_ok] at hS
    simp (config := { maxSteps := 10000000 }) only [run_drx, run_xd, run_xq, run_xg, run_xb, EV1, EV2, EV3, EV4, EV5, EV6, addT, istep, lenR_sl, lenR_ns, lenR_es, pickR, putD, bin1R, un1R, slcR, bnd, capsOf, fillP, S_plain, V_plain, V.cells, S_known, V_known, C.v, blk, setL, setH, eqS, eq1, cmpS, cmp1, isNil, popTo, killT, setT, leT, V.below, C.below, S_below, R.below, V.val, C.val, S_val, R.val, R.takes, vals, shows, List.any_cons, List.any_nil, unnamed, V.kill, V.names, C.names, S_names, R.names, List.set, List.replicate, ↓q_cond_t, ↓q_cond_f, if_true, if_false, reduceCtorEq, rvals, rvC, result, C_known, V.noL, C.noL, S_noL, R.noL, Option.map, true_and, and_true, ge_iff_le, gt_iff_lt, implies_true, q_ite_t, q_ite_f, beq_iff_eq, bne_iff_ne, q_ne, Nat.reduceAdd, Nat.reducePow, Int.reducePow, Nat.reduceMul, Nat.reduceSub, Nat.reduceLeDiff, Nat.reduceLT, Nat.reduceEqDiff, Int.reduceNeg, Int.reduceLT, Int.reduceLE, Int.reduceEq, Int.reduceNe, Int.reduceAdd, Int.reduceSub, Int.reduceMul, Int.reduceToNat, Int.reduceBEq, Int.reduceBNe, df13]
    refine loop_rule (α := Unit) [] (fun _ => []) (fun _ => []) (fun _ => h) (fun _ => True) (fun _ => 0) () trivial .refl ?_
    rintro X _ _ _
    refine run_sound (Tab.ok_Γ _) 100 _ _ _ _ ?_
    simp (config := { maxSteps := 10000000 }) only [run_drx, run_xd, run_xq, run_xg, run_xb, EV1, EV2, EV3, EV4, EV5, EV6, addT, istep, lenR_sl, lenR_ns, lenR_es, pickR, putD, bin1R, un1R, slcR, bnd, capsOf, fillP, S_plain, V_plain, V.cells, S_known, V_known, C.v, blk, setL, setH, eqS, eq1, cmpS, cmp1, isNil, popTo, killT, setT, leT, V.below, C.below, S_below, R.below, V.val, C.val, S_val, R.val, R.takes, vals, shows, List.any_cons, List.any_nil, unnamed, V.kill, V.names, C.names, S_names, R.names, List.set, List.replicate, ↓q_cond_t, ↓q_cond_f, if_true, if_false, reduceCtorEq, rvals, rvC, result, C_known, V.noL, C.noL, S_noL, R.noL, Option.map, true_and, and_true, ge_iff_le, gt_iff_lt, implies_true, q_ite_t, q_ite_f, beq_iff_eq, bne_iff_ne, q_ne, Nat.reduceAdd, Nat.reducePow, Int.reducePow, Nat.reduceMul, Nat.reduceSub, Nat.reduceLeDiff, Nat.reduceLT, Nat.reduceEqDiff, Int.reduceNeg, Int.reduceLT, Int.reduceLE, Int.reduceEq, Int.reduceNe, Int.reduceAdd, Int.reduceSub, Int.reduceMul, Int.reduceToNat, Int.reduceBEq, Int.reduceBNe, Int.lt_irrefl]
    exact hS
  · rename_i k n c
    split at hS
    · rename_i B hk
      obtain ⟨⟨hst, hB, hn, hn64, hu⟩, hS⟩ := hS
      simp only [spec_br, spec_ok] at hS
      generalize decF B.cells = L at *
      obtain ⟨F, hF⟩ : ∃ F, F = L.take n := ⟨_, rfl⟩
      have hFl : F.length = n := by rw [hF]; simp; omega
      rw [← hF] at hS
      simp (config := { maxSteps := 10000000 }) only [run_drx, run_xd, run_xq, run_xg, run_xb, EV1, EV2, EV3, EV4, EV5, EV6, addT, istep, lenR_sl, lenR_ns, lenR_es, pickR, putD, bin1R, un1R, slcR, bnd, capsOf, fillP, S_plain, V_plain, V.cells, S_known, V_known, C.v, blk, setL, setH, eqS, eq1, cmpS, cmp1, isNil, popTo, killT, setT, leT, V.below, C.below, S_below, R.below, V.val, C.val, S_val, R.val, R.takes, vals, shows, List.any_cons, List.any_nil, unnamed, V.kill, V.names, C.names, S_names, R.names, List.set, List.replicate, ↓q_cond_t, ↓q_cond_f, if_true, if_false, reduceCtorEq, rvals, rvC, result, C_known, V.noL, C.noL, S_noL, R.noL, Option.map, true_and, and_true, ge_iff_le, gt_iff_lt, implies_true, q_ite_t, q_ite_f, beq_iff_eq, bne_iff_ne, q_ne, Nat.reduceAdd, Nat.reducePow, Int.reducePow, Nat.reduceMul, Nat.reduceSub, Nat.reduceLeDiff, Nat.reduceLT, Nat.reduceEqDiff, Int.reduceNeg, Int.reduceLT, Int.reduceLE, Int.reduceEq, Int.reduceNe, Int.reduceAdd, Int.reduceSub, Int.reduceMul, Int.reduceToNat, Int.reduceBEq, Int.reduceBNe, df13]
      refine loop_rule (α := Nat × Nat × Nat) [2, 3, 4, 5, 7, 8, 11, 12, 13, 14, 15, 16, 17, 18, 19, 20, 21, 22, 23, 24, 25, 26, 27, 28, 29, 30, 31, 32] (fun y => [(4, .s (.i .u64 y.2.2)), (5, .s (.i .i64 y.2.1)), (11, .s (.i .i64 y.1))]) (fun _ => []) (fun _ => h)
        (fun y => y.1 ≤ n ∧ y.2.1 ≤ 64 ∧ y.2.2 < 2 ^ y.2.1 ∧ packB F 0 = packB (F.drop y.1) y.2.1 ∧ packV F 0 = y.2.2 + packV (F.drop y.1) y.2.1) (fun y => n - y.1) (0, 0, 0) ⟨by simp, by simp, by simp, by simp, by simp⟩ (Wk.same rfl rfl ?_) ?_
      · simp (config := { maxSteps := 10000000 }) only [run_drx, run_xd, run_xq, run_xg, run_xb, EV1, EV2, EV3, EV4, EV5, EV6, addT, istep, lenR_sl, lenR_ns, lenR_es, pickR, putD, bin1R, un1R, slcR, bnd, capsOf, fillP, S_plain, V_plain, V.cells, S_known, V_known, C.v, blk, setL, setH, eqS, eq1, cmpS, cmp1, isNil, popTo, killT, setT, leT, V.below, C.below, S_below, R.below, V.val, C.val, S_val, R.val, R.takes, vals, shows, List.any_cons, List.any_nil, unnamed, V.kill, V.names, C.names, S_names, R.names, List.set, List.replicate, ↓q_cond_t, ↓q_cond_f, if_true, if_false, reduceCtorEq, rvals, rvC, result, C_known, V.noL, C.noL, S_noL, R.noL, Option.map, true_and, and_true, ge_iff_le, gt_iff_lt, implies_true, q_ite_t, q_ite_f, beq_iff_eq, bne_iff_ne, q_ne, Nat.reduceAdd, Nat.reducePow, Int.reducePow, Nat.reduceMul, Nat.reduceSub, Nat.reduceLeDiff, Nat.reduceLT, Nat.reduceEqDiff, Int.reduceNeg, Int.reduceLT, Int.reduceLE, Int.reduceEq, Int.reduceNe, Int.reduceAdd, Int.reduceSub, Int.reduceMul, Int.reduceToNat, Int.reduceBEq, Int.reduceBNe, Int.natCast_zero]
      · rintro X ⟨i, a, w⟩ ⟨hi, ha, hw, hpb, hpv⟩ IH
        simp only at hi ha hw hpb hpv ⊢
        rcases Nat.lt_or_ge i n with hlt | hge
        · have I := idx hlt hn64
          have hiL : i < L.length := by omega
          have E : sub B.cells (i * 2) 2 = [.i .i64 (nth Fd.z L i).b, .i .u64 (nth Fd.z L i).v] := by
            rw [hB, arr_sub Fd.c_len hiL, nth_eq hiL]; rfl
          have hle : i * 2 + 2 ≤ B.cells.length := by rw [hB, arr_length Fd.c_len]; omega
          have hd : F.drop i = nth Fd.z L i :: F.drop (i + 1) := by
            rw [List.drop_eq_getElem_cons (by omega), nth_eq hiL]
            congr 1
            subst hF; simp
          obtain ⟨f, hf⟩ : ∃ f, f = nth Fd.z L i := ⟨_, rfl⟩
          rw [← hf] at E hd
          have hfu : u64 f.v := hu f (by rw [hf, nth_eq hiL]; exact List.getElem_mem _)
          obtain ⟨v, hv, hv'⟩ := hfu.nat
          have hw64 : u64 (w : Int) := u64_of (Nat.lt_of_lt_of_le hw (by have := pow_le64 (k := a) (n := 0) (by omega); simpa using this))
          rw [hd] at hpb hpv
          simp only [packB, packV] at hpb hpv
          cases hs : setB (a : Int) f.b f.v with
          | true =>
            have hs2 := hs
            simp only [setB, Bool.and_eq_true, decide_eq_true_eq] at hs2
            obtain ⟨k', m, e1, e2, h1, h2, h3⟩ := fieldB_nat hs2.1
            have : k' = a := by omega
            subst this
            have hvm : v < 2 ^ m := by have := hs2.2; rw [hv, e2] at this; simpa using this
            have hsv : setV (w : Int) (k' : Int) f.b f.v = ((w + 2 ^ k' * v : Nat) : Int) := by rw [e2, hv]; exact setV_low hw
            have hwr : IntKind.i64.wrap ((k' : Int) + f.b) = ((k' + m : Nat) : Int) := by rw [wrap64] <;> omega
            refine run_sound (Tab.ok_Γ _) 200 _ _ _ _ ?_
            simp (config := { maxSteps := 10000000 }) only [run_drx, run_xd, run_xq, run_xg, run_xb, EV1, EV2, EV3, EV4, EV5, EV6, addT, istep, lenR_sl, lenR_ns, lenR_es, pickR, putD, bin1R, un1R, slcR, bnd, capsOf, fillP, S_plain, V_plain, V.cells, S_known, V_known, C.v, blk, setL, setH, eqS, eq1, cmpS, cmp1, isNil, popTo, killT, setT, leT, V.below, C.below, S_below, R.below, V.val, C.val, S_val, R.val, R.takes, vals, shows, List.any_cons, List.any_nil, unnamed, V.kill, V.names, C.names, S_names, R.names, List.set, List.replicate, ↓q_cond_t, ↓q_cond_f, if_true, if_false, reduceCtorEq, rvals, rvC, result, C_known, V.noL, C.noL, S_noL, R.noL, Option.map, true_and, and_true, ge_iff_le, gt_iff_lt, implies_true, q_ite_t, q_ite_f, beq_iff_eq, bne_iff_ne, q_ne, Nat.reduceAdd, Nat.reducePow, Int.reducePow, Nat.reduceMul, Nat.reduceSub, Nat.reduceLeDiff, Nat.reduceLT, Nat.reduceEqDiff, Int.reduceNeg, Int.reduceLT, Int.reduceLE, Int.reduceEq, Int.reduceNe, Int.reduceAdd, Int.reduceSub, Int.reduceMul, Int.reduceToNat, Int.reduceBEq, Int.reduceBNe, I, E, hle, hk, hst, W2, setG, hw64, hfu, hs, hsv, hwr]
            refine IH (i + 1, k' + m, w + 2 ^ k' * v) _ (by simp only; omega) ⟨by simp only; omega, h3, low_step hw hvm, ?_, ?_⟩ (Wk.keep 0 rfl rfl ?_ ?_ rfl)
            · rw [hpb, hs, Bool.true_and, e2]; rfl
            · rw [hpv, hv, e2]
              simp only [Int.toNat_natCast]
              push_cast
              omega
            · simp (config := { maxSteps := 10000000 }) only [run_drx, run_xd, run_xq, run_xg, run_xb, EV1, EV2, EV3, EV4, EV5, EV6, addT, istep, lenR_sl, lenR_ns, lenR_es, pickR, putD, bin1R, un1R, slcR, bnd, capsOf, fillP, S_plain, V_plain, V.cells, S_known, V_known, C.v, blk, setL, setH, eqS, eq1, cmpS, cmp1, isNil, popTo, killT, setT, leT, V.below, C.below, S_below, R.below, V.val, C.val, S_val, R.val, R.takes, vals, shows, List.any_cons, List.any_nil, unnamed, V.kill, V.names, C.names, S_names, R.names, List.set, List.replicate, ↓q_cond_t, ↓q_cond_f, if_true, if_false, reduceCtorEq, rvals, rvC, result, C_known, V.noL, C.noL, S_noL, R.noL, Option.map, true_and, and_true, ge_iff_le, gt_iff_lt, implies_true, q_ite_t, q_ite_f, beq_iff_eq, bne_iff_ne, q_ne, Nat.reduceAdd, Nat.reducePow, Int.reducePow, Nat.reduceMul, Nat.reduceSub, Nat.reduceLeDiff, Nat.reduceLT, Nat.reduceEqDiff, Int.reduceNeg, Int.reduceLT, Int.reduceLE, Int.reduceEq, Int.reduceNe, Int.reduceAdd, Int.reduceSub, Int.reduceMul, Int.reduceToNat, Int.reduceBEq, Int.reduceBNe]
            · simp (config := { maxSteps := 10000000 }) only [run_drx, run_xd, run_xq, run_xg, run_xb, EV1, EV2, EV3, EV4, EV5, EV6, addT, istep, lenR_sl, lenR_ns, lenR_es, pickR, putD, bin1R, un1R, slcR, bnd, capsOf, fillP, S_plain, V_plain, V.cells, S_known, V_known, C.v, blk, setL, setH, eqS, eq1, cmpS, cmp1, isNil, popTo, killT, setT, leT, V.below, C.below, S_below, R.below, V.val, C.val, S_val, R.val, R.takes, vals, shows, List.any_cons, List.any_nil, unnamed, V.kill, V.names, C.names, S_names, R.names, List.set, List.replicate, ↓q_cond_t, ↓q_cond_f, if_true, if_false, reduceCtorEq, rvals, rvC, result, C_known, V.noL, C.noL, S_noL, R.noL, Option.map, true_and, and_true, ge_iff_le, gt_iff_lt, implies_true, q_ite_t, q_ite_f, beq_iff_eq, bne_iff_ne, q_ne, Nat.reduceAdd, Nat.reducePow, Int.reducePow, Nat.reduceMul, Nat.reduceSub, Nat.reduceLeDiff, Nat.reduceLT, Nat.reduceEqDiff, Int.reduceNeg, Int.reduceLT, Int.reduceLE, Int.reduceEq, Int.reduceNe, Int.reduceAdd, Int.reduceSub, Int.reduceMul, Int.reduceToNat, Int.reduceBEq, Int.reduceBNe]
          | false =>
            refine run_sound (Tab.ok_Γ _) 200 _ _ _ _ ?_
            simp (config := { maxSteps := 10000000 }) only [run_drx, run_xd, run_xq, run_xg, run_xb, EV1, EV2, EV3, EV4, EV5, EV6, addT, istep, lenR_sl, lenR_ns, lenR_es, pickR, putD, bin1R, un1R, slcR, bnd, capsOf, fillP, S_plain, V_plain, V.cells, S_known, V_known, C.v, blk, setL, setH, eqS, eq1, cmpS, cmp1, isNil, popTo, killT, setT, leT, V.below, C.below, S_below, R.below, V.val, C.val, S_val, R.val, R.takes, vals, shows, List.any_cons, List.any_nil, unnamed, V.kill, V.names, C.names, S_names, R.names, List.set, List.replicate, ↓q_cond_t, ↓q_cond_f, if_true, if_false, reduceCtorEq, rvals, rvC, result, C_known, V.noL, C.noL, S_noL, R.noL, Option.map, true_and, and_true, ge_iff_le, gt_iff_lt, implies_true, q_ite_t, q_ite_f, beq_iff_eq, bne_iff_ne, q_ne, Nat.reduceAdd, Nat.reducePow, Int.reducePow, Nat.reduceMul, Nat.reduceSub, Nat.reduceLeDiff, Nat.reduceLT, Nat.reduceEqDiff, Int.reduceNeg, Int.reduceLT, Int.reduceLE, Int.reduceEq, Int.reduceNe, Int.reduceAdd, Int.reduceSub, Int.reduceMul, Int.reduceToNat, Int.reduceBEq, Int.reduceBNe, I, E, hle, hk, hst, W2, setG, hw64, hfu, hs]
            rw [hs, Bool.false_and] at hpb
            exact hS.2 hpb
        · have : i = n := by omega
          subst this
          refine run_sound (Tab.ok_Γ _) 100 _ _ _ _ ?_
          simp (config := { maxSteps := 10000000 }) only [run_drx, run_xd, run_xq, run_xg, run_xb, EV1, EV2, EV3, EV4, EV5, EV6, addT, istep, lenR_sl, lenR_ns, lenR_es, pickR, putD, bin1R, un1R, slcR, bnd, capsOf, fillP, S_plain, V_plain, V.cells, S_known, V_known, C.v, blk, setL, setH, eqS, eq1, cmpS, cmp1, isNil, popTo, killT, setT, leT, V.below, C.below, S_below, R.below, V.val, C.val, S_val, R.val, R.takes, vals, shows, List.any_cons, List.any_nil, unnamed, V.kill, V.names, C.names, S_names, R.names, List.set, List.replicate, ↓q_cond_t, ↓q_cond_f, if_true, if_false, reduceCtorEq, rvals, rvC, result, C_known, V.noL, C.noL, S_noL, R.noL, Option.map, true_and, and_true, ge_iff_le, gt_iff_lt, implies_true, q_ite_t, q_ite_f, beq_iff_eq, bne_iff_ne, q_ne, Nat.reduceAdd, Nat.reducePow, Int.reducePow, Nat.reduceMul, Nat.reduceSub, Nat.reduceLeDiff, Nat.reduceLT, Nat.reduceEqDiff, Int.reduceNeg, Int.reduceLT, Int.reduceLE, Int.reduceEq, Int.reduceNe, Int.reduceAdd, Int.reduceSub, Int.reduceMul, Int.reduceToNat, Int.reduceBEq, Int.reduceBNe, Int.lt_irrefl]
          have hdn : F.drop i = [] := List.drop_eq_nil_of_le (by omega)
          rw [hdn] at hpb hpv
          have := hS.1 hpb
          rw [hpv] at this
          simpa [packV] using this
    · exact hS.elim
  · exact hS.elim

/-! ### Unpack -/
def decI : List S → List Int
  | .i _ b :: s => b :: decI s
  | _ => []
def Ic (b : Int) : List S := [.i .i64 b]
def Uc (b : Int) : List S := [.i .u64 b]
theorem Ic_len (b : Int) : (Ic b).length = 1 := rfl
theorem Uc_len (b : Int) : (Uc b).length = 1 := rfl
theorem decI_arr : ∀ L : List Int, decI (arr Ic L) = L
  | [] => rfl
  | l :: L => by simp only [arr, Ic, List.cons_append, List.nil_append, decI, decI_arr L]

/-- Are there fields of so many bits each, and nothing behind them? -/
def unpackB (w : Int) : List Int → Int → Bool
  | [], at_ => decide (w.toNat / 2 ^ at_.toNat = 0)
  | n :: L, at_ => fieldB at_ n && unpackB w L (at_ + n)
def unpackV (w : Int) : List Int → Int → List Int
  | [], _ => []
  | n :: L, at_ => getV w at_ n :: unpackV w L (at_ + n)

/-- A slice of words, fresh. -/
def wordsR (M : List Int) (f : V → V) (h : List Blk) : Res :=
  match M with
  | [] => .ok (f (.s .ns)) [] h
  | _ => .all M.length fun c => .ok (f (.s (.sl (.g h.length) 0 M.length c))) [] (h ++ [⟨.rw, arr Uc M, c⟩])

def pairV (e : Int) : V → V
  | .s x => .tup [.s x, .s (.i .i64 e)]
  | v => v

def unpackG : List V → List Blk → Res
  | [.s (.i .u64 w), .s .ns], h => .ob (u64 w) (.br (decide (w = 0)) (.ok (.tup [.s .ns, .s (.i .i64 0)]) [] h) (.ok (.tup [.s .ns, .s (.i .i64 10)]) [] h))
  | [.s (.i .u64 w), .s (.sl (.g k) 0 n _)], h => match h[k]? with
    | some B => .ob (u64 w ∧ B.st ≠ .dead ∧ B.cells = arr Ic (decI B.cells) ∧ n ≤ (decI B.cells).length ∧ n ≤ 9223372036854775807)
      (.br (unpackB w ((decI B.cells).take n) 0) (wordsR (unpackV w ((decI B.cells).take n) 0) (pairV 0) h) (.ok (.tup [.s .ns, .s (.i .i64 10)]) [] h))
    | none => .bad
  | _, _ => .bad

end Go.Proofs.YtmchhjjdlcmhoaaDoor

/- Package word: Unpack. -/
namespace Go.Proofs.YtmchhjjdlcmhoaaDoor
open Go.D
set_option linter.all false
set_option maxRecDepth 100000
set_option maxHeartbeats 4000000

def slT : List Int → Nat → V
  | [], _ => .s .ns
  | y :: M, c => .s (.sl (.l 0) 0 (M.length + 1) c)
def lsT : List Int → Nat → List Blk
  | [], _ => []
  | y :: M, c => [⟨.rw, arr Uc (y :: M), c⟩]

theorem uc_all (p : S → Bool) (hp : ∀ n, p (.i .u64 n) = true) (M : List Int) : (arr Uc M).all p = true := by
  rw [arr_all]; simp [Uc, hp]
theorem uc_ren (ρ : R → R) (M : List Int) : (arr Uc M).map (S.ren ρ) = arr Uc M := by
  induction M with
  | nil => rfl
  | cons y M ih => simp only [arr, List.map_append, ih]; rfl

theorem words_leave {h : List Blk} {K : V → List Blk → Prop} {y e : Int} {M : List Int} {c : Nat} (hc : M.length + 1 ≤ c) (hS : (wordsR (y :: M) (pairV e) h).spec K) :
    leaveB (.tup [.s (.sl (.l 0) 0 (M.length + 1) c), .s (.i .i64 e)]) [⟨.rw, arr Uc (y :: M), c⟩] h K false := by
  have hS := hS c hc
  refine ⟨[0], by simp, rfl, ?_⟩
  simp only [getAll, List.getElem?_cons_zero]
  refine ⟨?_, ?_⟩
  · simp only [List.all_cons, List.all_nil, decide_true, Bool.true_and, Bool.and_true]
    exact uc_all _ (fun _ => rfl) (y :: M)
  · refine cast ?_ hS
    simp only [List.map_cons, List.map_nil, Blk.ren, uc_ren]
    rfl

theorem div_dec (w a : Nat) : decide (((w : Int).toNat) / 2 ^ ((a : Int).toNat) = 0) = decide ((w : Int) / 2 ^ a = 0) := by
  simp only [Int.toNat_natCast]
  have : ((w : Int) / 2 ^ a = 0) ↔ w / 2 ^ a = 0 := by
    constructor
    · intro h; have : ((w / 2 ^ a : Nat) : Int) = 0 := by push_cast; exact h
      omega
    · intro h; have : ((w / 2 ^ a : Nat) : Int) = 0 := by rw [h]; rfl
      push_cast at this; exact this
  simp only [this]

theorem unpack_loop {h : List Blk} {K : V → List Blk → Prop} {k n c0 : Nat} {w : Nat} {B : Blk} {L : List Int} (hw : w < 18446744073709551616) (hk : h[k]? = some B) (hst : B.st ≠ .dead) (hB : B.cells = arr Ic L) (hn : n ≤ L.length) (hn64 : n ≤ 9223372036854775807) (hc : clean h.length h = true)
    (hS : (Res.br (unpackB (w : Int) (L.take n) 0) (wordsR (unpackV (w : Int) (L.take n) 0) (pairV 0) h) (.ok (.tup [.s .ns, .s (.i .i64 10)]) [] h)).spec K) :
    holds W2.Γ h.length (finP df16.res K) (run W2 100 [.c df16.body] ([V.s (.i .u64 w), V.s (.sl (.g k) 0 n c0)] ++ List.replicate 39 (.tup [])) [] h) := by
  simp only [spec_br, spec_ok] at hS
  obtain ⟨F, hF⟩ : ∃ F, F = L.take n := ⟨_, rfl⟩
  have hFl : F.length = n := by rw [hF]; simp; omega
  rw [← hF] at hS
  have hwu := u64_of hw
  simp (config := { maxSteps := 10000000 }) only [run_drx, run_xd, run_xq, run_xg, run_xb, EV1, EV2, EV3, EV4, EV5, EV6, addT, istep, lenR_sl, lenR_ns, lenR_es, pickR, putD, bin1R, un1R, slcR, bnd, capsOf, fillP, S_plain, V_plain, V.cells, S_known, V_known, C.v, blk, setL, setH, eqS, eq1, cmpS, cmp1, isNil, popTo, killT, setT, leT, V.below, C.below, S_below, R.below, V.val, C.val, S_val, R.val, R.takes, vals, shows, List.any_cons, List.any_nil, unnamed, V.kill, V.names, C.names, S_names, R.names, List.set, List.replicate, ↓q_cond_t, ↓q_cond_f, if_true, if_false, reduceCtorEq, rvals, rvC, result, C_known, V.noL, C.noL, S_noL, R.noL, Option.map, true_and, and_true, ge_iff_le, gt_iff_lt, implies_true, q_ite_t, q_ite_f, beq_iff_eq, bne_iff_ne, q_ne, Nat.reduceAdd, Nat.reducePow, Int.reducePow, Nat.reduceMul, Nat.reduceSub, Nat.reduceLeDiff, Nat.reduceLT, Nat.reduceEqDiff, Int.reduceNeg, Int.reduceLT, Int.reduceLE, Int.reduceEq, Int.reduceNe, Int.reduceAdd, Int.reduceSub, Int.reduceMul, Int.reduceToNat, Int.reduceBEq, Int.reduceBNe, df16]
  refine loop_rule (α := Nat × Nat × List Int × Nat) [4, 5, 6, 7, 9, 10, 11, 14, 15, 16, 17, 18, 19, 20, 21, 22, 23, 24, 25, 26, 27, 28, 29, 30, 31, 32, 33, 34, 35] (fun y => [(6, slT y.2.2.1 y.2.2.2), (7, .s (.i .i64 y.2.1)), (14, .s (.i .i64 y.1))]) (fun y => lsT y.2.2.1 y.2.2.2) (fun _ => h)
    (fun y => y.1 ≤ n ∧ y.2.1 ≤ 64 ∧ y.2.2.1.length = y.1 ∧ y.1 ≤ y.2.1 ∧ y.2.2.1.length ≤ y.2.2.2 ∧ unpackB w F 0 = unpackB w (F.drop y.1) y.2.1 ∧ unpackV w F 0 = y.2.2.1 ++ unpackV w (F.drop y.1) y.2.1) (fun y => n - y.1) (0, 0, [], 0) ⟨by simp, by simp, rfl, by simp, by simp, by simp, by simp⟩ (Wk.same rfl rfl ?_) ?_
  · simp (config := { maxSteps := 10000000 }) only [run_drx, run_xd, run_xq, run_xg, run_xb, EV1, EV2, EV3, EV4, EV5, EV6, addT, istep, lenR_sl, lenR_ns, lenR_es, pickR, putD, bin1R, un1R, slcR, bnd, capsOf, fillP, S_plain, V_plain, V.cells, S_known, V_known, C.v, blk, setL, setH, eqS, eq1, cmpS, cmp1, isNil, popTo, killT, setT, leT, V.below, C.below, S_below, R.below, V.val, C.val, S_val, R.val, R.takes, vals, shows, List.any_cons, List.any_nil, unnamed, V.kill, V.names, C.names, S_names, R.names, List.set, List.replicate, ↓q_cond_t, ↓q_cond_f, if_true, if_false, reduceCtorEq, rvals, rvC, result, C_known, V.noL, C.noL, S_noL, R.noL, Option.map, true_and, and_true, ge_iff_le, gt_iff_lt, implies_true, q_ite_t, q_ite_f, beq_iff_eq, bne_iff_ne, q_ne, Nat.reduceAdd, Nat.reducePow, Int.reducePow, Nat.reduceMul, Nat.reduceSub, Nat.reduceLeDiff, Nat.reduceLT, Nat.reduceEqDiff, Int.reduceNeg, Int.reduceLT, Int.reduceLE, Int.reduceEq, Int.reduceNe, Int.reduceAdd, Int.reduceSub, Int.reduceMul, Int.reduceToNat, Int.reduceBEq, Int.reduceBNe, Int.natCast_zero, slT]
  · rintro X ⟨i, a, M, c⟩ ⟨hi, ha, hM, hia, hMc, hpb, hpv⟩ IH
    simp only at hi ha hM hia hMc hpb hpv ⊢
    rcases Nat.lt_or_ge i n with hlt | hge
    · have I := idx hlt hn64
      have hiL : i < L.length := by omega
      obtain ⟨b, hb⟩ : ∃ b, b = nth 0 L i := ⟨_, rfl⟩
      have E : B.cells[i]? = some (.i .i64 b) := by
        have := arr_get0 Ic_len hiL (by omega)
        rw [Nat.mul_one] at this
        rw [hB, this, hb, nth_eq hiL]; rfl
      have hd : F.drop i = b :: F.drop (i + 1) := by
        rw [List.drop_eq_getElem_cons (by omega), hb, nth_eq hiL]
        congr 1
        subst hF; simp
      rw [hd] at hpb hpv
      simp only [unpackB, unpackV] at hpb hpv
      cases hf : fieldB (a : Int) b with
      | true =>
        obtain ⟨a', m, e1, e2, h1, h2, h3⟩ := fieldB_nat hf
        have : a' = a := by omega
        subst this
        have hwr : IntKind.i64.wrap ((a' : Int) + b) = ((a' + m : Nat) : Int) := by rw [wrap64] <;> omega
        have hpb' : unpackB w F 0 = unpackB w (F.drop (i + 1)) ((a' + m : Nat) : Int) := by rw [hpb, hf, Bool.true_and, e2]; rfl
        cases M with
        | nil =>
          have hkl : k < h.length := (List.getElem?_eq_some_iff.1 hk).1
          simp only [slT, lsT]
          refine run_sound (Tab.ok_Γ _) 200 _ _ _ _ ?_
          simp (config := { maxSteps := 10000000 }) only [run_drx, run_xd, run_xq, run_xg, run_xb, EV1, EV2, EV3, EV4, EV5, EV6, addT, istep, lenR_sl, lenR_ns, lenR_es, pickR, putD, bin1R, un1R, slcR, bnd, capsOf, fillP, S_plain, V_plain, V.cells, S_known, V_known, C.v, blk, setL, setH, eqS, eq1, cmpS, cmp1, isNil, popTo, killT, setT, leT, V.below, C.below, S_below, R.below, V.val, C.val, S_val, R.val, R.takes, vals, shows, List.any_cons, List.any_nil, unnamed, V.kill, V.names, C.names, S_names, R.names, List.set, List.replicate, ↓q_cond_t, ↓q_cond_f, if_true, if_false, reduceCtorEq, rvals, rvC, result, C_known, V.noL, C.noL, S_noL, R.noL, Option.map, true_and, and_true, ge_iff_le, gt_iff_lt, implies_true, q_ite_t, q_ite_f, beq_iff_eq, bne_iff_ne, q_ne, Nat.reduceAdd, Nat.reducePow, Int.reducePow, Nat.reduceMul, Nat.reduceSub, Nat.reduceLeDiff, Nat.reduceLT, Nat.reduceEqDiff, Int.reduceNeg, Int.reduceLT, Int.reduceLE, Int.reduceEq, Int.reduceNe, Int.reduceAdd, Int.reduceSub, Int.reduceMul, Int.reduceToNat, Int.reduceBEq, Int.reduceBNe, I, E, hk, hst, W2, getG, hwu, hf, hwr]
          intro c' hc'
          refine IH (i + 1, a' + m, [getV w a' b], c') _ (by simp only; omega) ⟨by simp only; omega, h3, by simp at hM ⊢; omega, by simp only; omega, by simpa using hc', hpb', ?_⟩ (Wk.shift 1 ?_ (Nat.le_refl _) ?_ ?_ hc ?_ (clean_ren hc 1))
          · rw [hpv, e2]; rfl
          · simp [lsT, arr, Uc, Blk.ren, S.ren]
          · simp (config := { maxSteps := 10000000 }) only [run_drx, run_xd, run_xq, run_xg, run_xb, EV1, EV2, EV3, EV4, EV5, EV6, addT, istep, lenR_sl, lenR_ns, lenR_es, pickR, putD, bin1R, un1R, slcR, bnd, capsOf, fillP, S_plain, V_plain, V.cells, S_known, V_known, C.v, blk, setL, setH, eqS, eq1, cmpS, cmp1, isNil, popTo, killT, setT, leT, V.below, C.below, S_below, R.below, V.val, C.val, S_val, R.val, R.takes, vals, shows, List.any_cons, List.any_nil, unnamed, V.kill, V.names, C.names, S_names, R.names, List.set, List.replicate, ↓q_cond_t, ↓q_cond_f, if_true, if_false, reduceCtorEq, rvals, rvC, result, C_known, V.noL, C.noL, S_noL, R.noL, Option.map, true_and, and_true, ge_iff_le, gt_iff_lt, implies_true, q_ite_t, q_ite_f, beq_iff_eq, bne_iff_ne, q_ne, Nat.reduceAdd, Nat.reducePow, Int.reducePow, Nat.reduceMul, Nat.reduceSub, Nat.reduceLeDiff, Nat.reduceLT, Nat.reduceEqDiff, Int.reduceNeg, Int.reduceLT, Int.reduceLE, Int.reduceEq, Int.reduceNe, Int.reduceAdd, Int.reduceSub, Int.reduceMul, Int.reduceToNat, Int.reduceBEq, Int.reduceBNe, slT, V.ren, S.ren, R.shift, Nat.add_comm]
          · simp (config := { maxSteps := 10000000 }) only [run_drx, run_xd, run_xq, run_xg, run_xb, EV1, EV2, EV3, EV4, EV5, EV6, addT, istep, lenR_sl, lenR_ns, lenR_es, pickR, putD, bin1R, un1R, slcR, bnd, capsOf, fillP, S_plain, V_plain, V.cells, S_known, V_known, C.v, blk, setL, setH, eqS, eq1, cmpS, cmp1, isNil, popTo, killT, setT, leT, V.below, C.below, S_below, R.below, V.val, C.val, S_val, R.val, R.takes, vals, shows, List.any_cons, List.any_nil, unnamed, V.kill, V.names, C.names, S_names, R.names, List.set, List.replicate, ↓q_cond_t, ↓q_cond_f, if_true, if_false, reduceCtorEq, rvals, rvC, result, C_known, V.noL, C.noL, S_noL, R.noL, Option.map, true_and, and_true, ge_iff_le, gt_iff_lt, implies_true, q_ite_t, q_ite_f, beq_iff_eq, bne_iff_ne, q_ne, Nat.reduceAdd, Nat.reducePow, Int.reducePow, Nat.reduceMul, Nat.reduceSub, Nat.reduceLeDiff, Nat.reduceLT, Nat.reduceEqDiff, Int.reduceNeg, Int.reduceLT, Int.reduceLE, Int.reduceEq, Int.reduceNe, Int.reduceAdd, Int.reduceSub, Int.reduceMul, Int.reduceToNat, Int.reduceBEq, Int.reduceBNe, slT, lsT, hkl]
          · simp (config := { maxSteps := 10000000 }) only [run_drx, run_xd, run_xq, run_xg, run_xb, EV1, EV2, EV3, EV4, EV5, EV6, addT, istep, lenR_sl, lenR_ns, lenR_es, pickR, putD, bin1R, un1R, slcR, bnd, capsOf, fillP, S_plain, V_plain, V.cells, S_known, V_known, C.v, blk, setL, setH, eqS, eq1, cmpS, cmp1, isNil, popTo, killT, setT, leT, V.below, C.below, S_below, R.below, V.val, C.val, S_val, R.val, R.takes, vals, shows, List.any_cons, List.any_nil, unnamed, V.kill, V.names, C.names, S_names, R.names, List.set, List.replicate, ↓q_cond_t, ↓q_cond_f, if_true, if_false, reduceCtorEq, rvals, rvC, result, C_known, V.noL, C.noL, S_noL, R.noL, Option.map, true_and, and_true, ge_iff_le, gt_iff_lt, implies_true, q_ite_t, q_ite_f, beq_iff_eq, bne_iff_ne, q_ne, Nat.reduceAdd, Nat.reducePow, Int.reducePow, Nat.reduceMul, Nat.reduceSub, Nat.reduceLeDiff, Nat.reduceLT, Nat.reduceEqDiff, Int.reduceNeg, Int.reduceLT, Int.reduceLE, Int.reduceEq, Int.reduceNe, Int.reduceAdd, Int.reduceSub, Int.reduceMul, Int.reduceToNat, Int.reduceBEq, Int.reduceBNe, lsT, arr, Uc, hkl, hst]
        | cons y M =>
          have hl := arr_length Uc_len (y :: M)
          have hk1 : known (arr Uc (y :: M)) = true := uc_all _ (fun _ => rfl) _
          have hk2 : ∀ k, ((arr Uc (y :: M)).all fun s => !S.names k s) = true := fun k => uc_all _ (fun _ => rfl) _
          have hMl : M.length + 1 = i := by simpa using hM
          have hroom : M.length + 1 ≤ 64 := by omega
          simp only [slT, lsT]
          refine run_sound (Tab.ok_Γ _) 200 _ _ _ _ ?_
          simp (config := { maxSteps := 10000000 }) only [run_drx, run_xd, run_xq, run_xg, run_xb, EV1, EV2, EV3, EV4, EV5, EV6, addT, istep, lenR_sl, lenR_ns, lenR_es, pickR, putD, bin1R, un1R, slcR, bnd, capsOf, fillP, S_plain, V_plain, V.cells, S_known, V_known, C.v, blk, setL, setH, eqS, eq1, cmpS, cmp1, isNil, popTo, killT, setT, leT, V.below, C.below, S_below, R.below, V.val, C.val, S_val, R.val, R.takes, vals, shows, List.any_cons, List.any_nil, unnamed, V.kill, V.names, C.names, S_names, R.names, List.set, List.replicate, ↓q_cond_t, ↓q_cond_f, if_true, if_false, reduceCtorEq, rvals, rvC, result, C_known, V.noL, C.noL, S_noL, R.noL, Option.map, true_and, and_true, ge_iff_le, gt_iff_lt, implies_true, q_ite_t, q_ite_f, beq_iff_eq, bne_iff_ne, q_ne, Nat.reduceAdd, Nat.reducePow, Int.reducePow, Nat.reduceMul, Nat.reduceSub, Nat.reduceLeDiff, Nat.reduceLT, Nat.reduceEqDiff, Int.reduceNeg, Int.reduceLT, Int.reduceLE, Int.reduceEq, Int.reduceNe, Int.reduceAdd, Int.reduceSub, Int.reduceMul, Int.reduceToNat, Int.reduceBEq, Int.reduceBNe, I, E, hk, hst, W2, getG, hwu, hf, hwr, hl, hk1, hk2]
          refine ⟨by omega, fun c' hc' => ?_⟩
          obtain ⟨M', hM'⟩ : ∃ M', M' = M ++ [getV w a' b] := ⟨_, rfl⟩
          have hM'l : M'.length = M.length + 1 := by rw [hM']; simp
          have hI : i + 1 ≤ n ∧ a' + m ≤ 64 ∧ (y :: M').length = i + 1 ∧ i + 1 ≤ a' + m ∧ (y :: M').length ≤ c' ∧ unpackB w F 0 = unpackB w (F.drop (i + 1)) ((a' + m : Nat) : Int) ∧ unpackV w F 0 = (y :: M') ++ unpackV w (F.drop (i + 1)) ((a' + m : Nat) : Int) := by
            refine ⟨by omega, h3, by simp only [List.length_cons]; omega, by omega, by simp only [List.length_cons]; omega, hpb', ?_⟩
            rw [hpv, hM', e2, Int.natCast_add, List.cons_append, List.cons_append, List.append_assoc]; rfl
          refine IH (i + 1, a' + m, y :: M', c') _ (by simp only; omega) hI ?_
          simp only [slT, lsT]
          have hc2 : arr Uc (y :: M) ++ [S.i .u64 (getV w a' b)] = arr Uc (y :: M') := by rw [hM']; simp [arr_append, arr, Uc]
          have hk3 : (arr Uc (y :: M')).all (S.below 1) = true := uc_all _ (fun _ => rfl) _
          refine Wk.keep 1 (by rw [hc2]; rfl) rfl ?_ ?_ ?_
          · simp (config := { maxSteps := 10000000 }) only [run_drx, run_xd, run_xq, run_xg, run_xb, EV1, EV2, EV3, EV4, EV5, EV6, addT, istep, lenR_sl, lenR_ns, lenR_es, pickR, putD, bin1R, un1R, slcR, bnd, capsOf, fillP, S_plain, V_plain, V.cells, S_known, V_known, C.v, blk, setL, setH, eqS, eq1, cmpS, cmp1, isNil, popTo, killT, setT, leT, V.below, C.below, S_below, R.below, V.val, C.val, S_val, R.val, R.takes, vals, shows, List.any_cons, List.any_nil, unnamed, V.kill, V.names, C.names, S_names, R.names, List.set, List.replicate, ↓q_cond_t, ↓q_cond_f, if_true, if_false, reduceCtorEq, rvals, rvC, result, C_known, V.noL, C.noL, S_noL, R.noL, Option.map, true_and, and_true, ge_iff_le, gt_iff_lt, implies_true, q_ite_t, q_ite_f, beq_iff_eq, bne_iff_ne, q_ne, Nat.reduceAdd, Nat.reducePow, Int.reducePow, Nat.reduceMul, Nat.reduceSub, Nat.reduceLeDiff, Nat.reduceLT, Nat.reduceEqDiff, Int.reduceNeg, Int.reduceLT, Int.reduceLE, Int.reduceEq, Int.reduceNe, Int.reduceAdd, Int.reduceSub, Int.reduceMul, Int.reduceToNat, Int.reduceBEq, Int.reduceBNe, hM'l]
            all_goals try simp
          · simp (config := { maxSteps := 10000000 }) only [run_drx, run_xd, run_xq, run_xg, run_xb, EV1, EV2, EV3, EV4, EV5, EV6, addT, istep, lenR_sl, lenR_ns, lenR_es, pickR, putD, bin1R, un1R, slcR, bnd, capsOf, fillP, S_plain, V_plain, V.cells, S_known, V_known, C.v, blk, setL, setH, eqS, eq1, cmpS, cmp1, isNil, popTo, killT, setT, leT, V.below, C.below, S_below, R.below, V.val, C.val, S_val, R.val, R.takes, vals, shows, List.any_cons, List.any_nil, unnamed, V.kill, V.names, C.names, S_names, R.names, List.set, List.replicate, ↓q_cond_t, ↓q_cond_f, if_true, if_false, reduceCtorEq, rvals, rvC, result, C_known, V.noL, C.noL, S_noL, R.noL, Option.map, true_and, and_true, ge_iff_le, gt_iff_lt, implies_true, q_ite_t, q_ite_f, beq_iff_eq, bne_iff_ne, q_ne, Nat.reduceAdd, Nat.reducePow, Int.reducePow, Nat.reduceMul, Nat.reduceSub, Nat.reduceLeDiff, Nat.reduceLT, Nat.reduceEqDiff, Int.reduceNeg, Int.reduceLT, Int.reduceLE, Int.reduceEq, Int.reduceNe, Int.reduceAdd, Int.reduceSub, Int.reduceMul, Int.reduceToNat, Int.reduceBEq, Int.reduceBNe]
          · simp only [List.all_cons, List.all_nil, List.length_cons, List.length_nil, Bool.and_true]
            exact hk3
      | false =>
        cases M with
        | nil =>
          simp only [slT, lsT]
          refine run_sound (Tab.ok_Γ _) 200 _ _ _ _ ?_
          simp (config := { maxSteps := 10000000 }) only [run_drx, run_xd, run_xq, run_xg, run_xb, EV1, EV2, EV3, EV4, EV5, EV6, addT, istep, lenR_sl, lenR_ns, lenR_es, pickR, putD, bin1R, un1R, slcR, bnd, capsOf, fillP, S_plain, V_plain, V.cells, S_known, V_known, C.v, blk, setL, setH, eqS, eq1, cmpS, cmp1, isNil, popTo, killT, setT, leT, V.below, C.below, S_below, R.below, V.val, C.val, S_val, R.val, R.takes, vals, shows, List.any_cons, List.any_nil, unnamed, V.kill, V.names, C.names, S_names, R.names, List.set, List.replicate, ↓q_cond_t, ↓q_cond_f, if_true, if_false, reduceCtorEq, rvals, rvC, result, C_known, V.noL, C.noL, S_noL, R.noL, Option.map, true_and, and_true, ge_iff_le, gt_iff_lt, implies_true, q_ite_t, q_ite_f, beq_iff_eq, bne_iff_ne, q_ne, Nat.reduceAdd, Nat.reducePow, Int.reducePow, Nat.reduceMul, Nat.reduceSub, Nat.reduceLeDiff, Nat.reduceLT, Nat.reduceEqDiff, Int.reduceNeg, Int.reduceLT, Int.reduceLE, Int.reduceEq, Int.reduceNe, Int.reduceAdd, Int.reduceSub, Int.reduceMul, Int.reduceToNat, Int.reduceBEq, Int.reduceBNe, I, E, hk, hst, W2, getG, hwu, hf]
          rw [hf, Bool.false_and] at hpb
          exact hS.2 hpb
        | cons y M =>
          simp only [slT, lsT]
          refine run_sound (Tab.ok_Γ _) 200 _ _ _ _ ?_
          simp (config := { maxSteps := 10000000 }) only [run_drx, run_xd, run_xq, run_xg, run_xb, EV1, EV2, EV3, EV4, EV5, EV6, addT, istep, lenR_sl, lenR_ns, lenR_es, pickR, putD, bin1R, un1R, slcR, bnd, capsOf, fillP, S_plain, V_plain, V.cells, S_known, V_known, C.v, blk, setL, setH, eqS, eq1, cmpS, cmp1, isNil, popTo, killT, setT, leT, V.below, C.below, S_below, R.below, V.val, C.val, S_val, R.val, R.takes, vals, shows, List.any_cons, List.any_nil, unnamed, V.kill, V.names, C.names, S_names, R.names, List.set, List.replicate, ↓q_cond_t, ↓q_cond_f, if_true, if_false, reduceCtorEq, rvals, rvC, result, C_known, V.noL, C.noL, S_noL, R.noL, Option.map, true_and, and_true, ge_iff_le, gt_iff_lt, implies_true, q_ite_t, q_ite_f, beq_iff_eq, bne_iff_ne, q_ne, Nat.reduceAdd, Nat.reducePow, Int.reducePow, Nat.reduceMul, Nat.reduceSub, Nat.reduceLeDiff, Nat.reduceLT, Nat.reduceEqDiff, Int.reduceNeg, Int.reduceLT, Int.reduceLE, Int.reduceEq, Int.reduceNe, Int.reduceAdd, Int.reduceSub, Int.reduceMul, Int.reduceToNat, Int.reduceBEq, Int.reduceBNe, I, E, hk, hst, W2, getG, hwu, hf]
          rw [hf, Bool.false_and] at hpb
          exact hS.2 hpb
    · have : i = n := by omega
      subst this
      have hdn : F.drop i = [] := List.drop_eq_nil_of_le (by omega)
      rw [hdn] at hpb hpv
      simp only [unpackB, unpackV, List.append_nil] at hpb hpv
      have m2 : min a IntKind.u64.bits = a := by show min a 64 = _; omega
      have a0 : (0 : Int) ≤ a := by omega
      cases M with
      | nil =>
        simp only [slT, lsT]
        refine run_sound (Tab.ok_Γ _) 100 _ _ _ _ ?_
        simp (config := { maxSteps := 10000000 }) only [run_drx, run_xd, run_xq, run_xg, run_xb, EV1, EV2, EV3, EV4, EV5, EV6, addT, istep, lenR_sl, lenR_ns, lenR_es, pickR, putD, bin1R, un1R, slcR, bnd, capsOf, fillP, S_plain, V_plain, V.cells, S_known, V_known, C.v, blk, setL, setH, eqS, eq1, cmpS, cmp1, isNil, popTo, killT, setT, leT, V.below, C.below, S_below, R.below, V.val, C.val, S_val, R.val, R.takes, vals, shows, List.any_cons, List.any_nil, unnamed, V.kill, V.names, C.names, S_names, R.names, List.set, List.replicate, ↓q_cond_t, ↓q_cond_f, if_true, if_false, reduceCtorEq, rvals, rvC, result, C_known, V.noL, C.noL, S_noL, R.noL, Option.map, true_and, and_true, ge_iff_le, gt_iff_lt, implies_true, q_ite_t, q_ite_f, beq_iff_eq, bne_iff_ne, q_ne, Nat.reduceAdd, Nat.reducePow, Int.reducePow, Nat.reduceMul, Nat.reduceSub, Nat.reduceLeDiff, Nat.reduceLT, Nat.reduceEqDiff, Int.reduceNeg, Int.reduceLT, Int.reduceLE, Int.reduceEq, Int.reduceNe, Int.reduceAdd, Int.reduceSub, Int.reduceMul, Int.reduceToNat, Int.reduceBEq, Int.reduceBNe, Int.lt_irrefl, m2, a0]
        rw [hpb, hpv, div_dec] at hS
        simp only [decide_eq_true_eq, decide_eq_false_iff_not] at hS
        exact ⟨hS.2, hS.1⟩
      | cons y M =>
        simp only [slT, lsT]
        refine run_sound (Tab.ok_Γ _) 100 _ _ _ _ ?_
        simp (config := { maxSteps := 10000000 }) only [run_drx, run_xd, run_xq, run_xg, run_xb, EV1, EV2, EV3, EV4, EV5, EV6, addT, istep, lenR_sl, lenR_ns, lenR_es, pickR, putD, bin1R, un1R, slcR, bnd, capsOf, fillP, S_plain, V_plain, V.cells, S_known, V_known, C.v, blk, setL, setH, eqS, eq1, cmpS, cmp1, isNil, popTo, killT, setT, leT, V.below, C.below, S_below, R.below, V.val, C.val, S_val, R.val, R.takes, vals, shows, List.any_cons, List.any_nil, unnamed, V.kill, V.names, C.names, S_names, R.names, List.set, List.replicate, ↓q_cond_t, ↓q_cond_f, if_true, if_false, reduceCtorEq, rvals, rvC, result, C_known, V.noL, C.noL, S_noL, R.noL, Option.map, true_and, and_true, ge_iff_le, gt_iff_lt, implies_true, q_ite_t, q_ite_f, beq_iff_eq, bne_iff_ne, q_ne, Nat.reduceAdd, Nat.reducePow, Int.reducePow, Nat.reduceMul, Nat.reduceSub, Nat.reduceLeDiff, Nat.reduceLT, Nat.reduceEqDiff, Int.reduceNeg, Int.reduceLT, Int.reduceLE, Int.reduceEq, Int.reduceNe, Int.reduceAdd, Int.reduceSub, Int.reduceMul, Int.reduceToNat, Int.reduceBEq, Int.reduceBNe, Int.lt_irrefl, m2, a0]
        rw [hpb, hpv, div_dec] at hS
        simp only [decide_eq_true_eq, decide_eq_false_iff_not] at hS
        exact ⟨hS.2, fun e => words_leave (by simpa using hMc) (hS.1 e)⟩

end Go.Proofs.YtmchhjjdlcmhoaaDoor

/- Package word: Unpack's law. -/
namespace Go.Proofs.YtmchhjjdlcmhoaaDoor
open Go.D
set_option linter.all false
set_option maxRecDepth 100000
set_option maxHeartbeats 4000000

theorem unpack_snd : Snd Tryd.prog 16 (FSpec.of unpackG) := snd_run W2_snd mixed Tryd.func16 dc16 100 fun args h K hc hS => by
  unfold unpackG at hS
  split at hS
  · rename_i w h
    obtain ⟨hw, hS⟩ := hS
    obtain ⟨w, rfl, hw'⟩ := hw.nat
    simp only [spec_br, spec_ok, decide_eq_true_eq, decide_eq_false_iff_not] at hS
    simp (config := { maxSteps := 10000000 }) only [run_drx, run_xd, run_xq, run_xg, run_xb, EV1, EV2, EV3, EV4, EV5, EV6, addT, istep, lenR_sl, lenR_ns, lenR_es, pickR, putD, bin1R, un1R, slcR, bnd, capsOf, fillP, S_plain, V_plain, V.cells, S_known, V_known, C.v, blk, setL, setH, eqS, eq1, cmpS, cmp1, isNil, popTo, killT, setT, leT, V.below, C.below, S_below, R.below, V.val, C.val, S_val, R.val, R.takes, vals, shows, List.any_cons, List.any_nil, unnamed, V.kill, V.names, C.names, S_names, R.names, List.set, List.replicate, ↓q_cond_t, ↓q_cond_f, if_true, if_false, reduceCtorEq, rvals, rvC, result, C_known, V.noL, C.noL, S_noL, R.noL, Option.map, true_and, and_true, ge_iff_le, gt_iff_lt, implies_true, q_ite_t, q_ite_f, beq_iff_eq, bne_iff_ne, q_ne, Nat.reduceAdd, Nat.reducePow, Int.reducePow, Nat.reduceMul, Nat.reduceSub, Nat.reduceLeDiff, Nat.reduceLT, Nat.reduceEqDiff, Int.reduceNeg, Int.reduceLT, Int.reduceLE, Int.reduceEq, Int.reduceNe, Int.reduceAdd, Int.reduceSub, Int.reduceMul, Int.reduceToNat, Int.reduceBEq, Int.reduceBNe, df16]
    refine loop_rule (α := Unit) [] (fun _ => []) (fun _ => []) (fun _ => h) (fun _ => True) (fun _ => 0) () trivial .refl ?_
    rintro X _ _ _
    refine run_sound (Tab.ok_Γ _) 100 _ _ _ _ ?_
    simp (config := { maxSteps := 10000000 }) only [run_drx, run_xd, run_xq, run_xg, run_xb, EV1, EV2, EV3, EV4, EV5, EV6, addT, istep, lenR_sl, lenR_ns, lenR_es, pickR, putD, bin1R, un1R, slcR, bnd, capsOf, fillP, S_plain, V_plain, V.cells, S_known, V_known, C.v, blk, setL, setH, eqS, eq1, cmpS, cmp1, isNil, popTo, killT, setT, leT, V.below, C.below, S_below, R.below, V.val, C.val, S_val, R.val, R.takes, vals, shows, List.any_cons, List.any_nil, unnamed, V.kill, V.names, C.names, S_names, R.names, List.set, List.replicate, ↓q_cond_t, ↓q_cond_f, if_true, if_false, reduceCtorEq, rvals, rvC, result, C_known, V.noL, C.noL, S_noL, R.noL, Option.map, true_and, and_true, ge_iff_le, gt_iff_lt, implies_true, q_ite_t, q_ite_f, beq_iff_eq, bne_iff_ne, q_ne, Nat.reduceAdd, Nat.reducePow, Int.reducePow, Nat.reduceMul, Nat.reduceSub, Nat.reduceLeDiff, Nat.reduceLT, Nat.reduceEqDiff, Int.reduceNeg, Int.reduceLT, Int.reduceLE, Int.reduceEq, Int.reduceNe, Int.reduceAdd, Int.reduceSub, Int.reduceMul, Int.reduceToNat, Int.reduceBEq, Int.reduceBNe, Int.lt_irrefl]
    have m2 : min 0 IntKind.u64.bits = 0 := rfl
    simp only [m2, Int.reducePow, Int.ediv_one]
    exact ⟨hS.2, hS.1⟩
  · rename_i w k n c h
    split at hS
    · rename_i B hk
      obtain ⟨⟨hw, hst, hB, hn, hn64⟩, hS⟩ := hS
      obtain ⟨w, rfl, hw'⟩ := hw.nat
      exact unpack_loop hw' hk hst hB hn hn64 hc hS
    · exact hS.elim
  · exact hS.elim

end Go.Proofs.YtmchhjjdlcmhoaaDoor

