/- Package objs: fields of a word. -/
import Derived.Test.YtdlloccodmdnnaaZ10
import Derived.Test.YtdlloccodmdnnaaZ13
import Derived.Test.YtdlloccodmdnnaaZ16
import Derived.Test.YtdlloccodmdnnaaZ15
/- Package objs: fields of a word. -/
namespace Go.Proofs.Ytdlloccodmdnnaa
open Go.D
set_option linter.all false
set_option maxRecDepth 100000
set_option maxHeartbeats 8000000

structure Fi where
  b : Int
  n : Int
def Fi.c (f : Fi) : List S := [.i .i64 f.b, .i .i64 f.n]
theorem Fi.c_len (f : Fi) : f.c.length = 2 := rfl
instance : Cells Fi.c := ⟨⟨2, Fi.c_len⟩, fun x y e => by
  obtain ⟨a, b⟩ := x
  obtain ⟨c, d⟩ := y
  simp only [Fi.c, List.cons.injEq, S.i.injEq, true_and, and_true] at e
  rw [e.1, e.2]⟩
def Fi.z : Fi := ⟨0, 0⟩
def Fi.fd (f : Fi) : Fd := ⟨f.b, IntKind.u64.wrap f.n⟩
theorem fd_u (f : Fi) : u64 f.fd.v := by
  show u64 (IntKind.u64.wrap f.n)
  rw [IntKind.wrap_u64]; simp only [u64]; omega
def posB (L : List Fi) : Bool := L.all fun f => decide (0 ≤ f.n)
def opB (L : List Fi) : Bool := posB L && packB (L.map Fi.fd) 0
def opV (L : List Fi) : Int := if opB L then packV (L.map Fi.fd) 0 else 0
noncomputable def opackG : List V → List Blk → Res
  | [.s s], h => match arrOf Fi.c h s with
    | some L => .ob (L.length ≤ 64) (.ok (.tup [.s (.i .u64 (opV L)), .s (.b (opB L))]) [] h)
    | none => .bad
  | _, _ => .bad
def slF : List Fd → Nat → S
  | [], _ => .ns
  | _ :: M, c => .sl (.l 0) 0 (M.length + 1) c
def lsF : List Fd → Nat → List Blk
  | [], _ => []
  | x :: M, c => [⟨.rw, arr Fd.c (x :: M), c * 2⟩]
section
variable (L : List Fd)
theorem fd_all {p : S → Bool} (hp : ∀ k x, p (.i k x) = true) : (arr Fd.c L).all p = true := by
  rw [arr_all, List.all_eq_true]
  intro x _
  simp [Fd.c, hp]
theorem fd_known : known (arr Fd.c L) = true := by unfold known; exact fd_all L fun _ _ => rfl
theorem fd_names (n : Nat) : (arr Fd.c L).all (fun s => !s.names n) = true := fd_all L fun _ _ => rfl
theorem fd_below (n : Nat) : (arr Fd.c L).all (S.below n) = true := fd_all L fun _ _ => rfl
theorem fd_ren (ρ : R → R) : (arr Fd.c L).map (S.ren ρ) = arr Fd.c L := by
  induction L with
  | nil => rfl
  | cons x L ih => simp only [arr, List.map_append, ih]; rfl
theorem fd_len : (arr Fd.c L).length = L.length * 2 := arr_length Fd.c_len L
end
theorem fd_snoc (L : List Fd) (x : Fd) : arr Fd.c (L ++ [x]) = arr Fd.c L ++ x.c := by rw [arr_append]; simp [arr]
noncomputable def To1 : Tab := addT 114 packG (addT 98 unpackG (noT))
theorem To1_snd : To1.Snd Try.prog := addT_snd ok114 pack_snd (addT_snd ok98 unpack_snd ((noT_snd _)))
theorem opack_snd : Snd Try.prog 80 (FSpec.of opackG) := snd_run To1_snd mixed Try.func80 dc80 200 fun args h K hc hS => by
  unfold opackG at hS
  split at hS
  · split at hS
    · rename_i s _ L e
      obtain ⟨hl, hS⟩ := hS
      simp only [spec_ok] at hS
      have H1 := arrOf_some e
      have hlen := fun ls h' => H1.sl.len (ls := ls) (h := h')
      have hb1 : ∀ k, S.below k s = true := H1.sl.below
      have hnm := fun k => H1.sl.names k
      have hp1 := fun l => H1.sl.pick l
      have hv1 := fun k => H1.sl.val (k := h.length) (m := k) (Nat.le_refl _)
      have hcq := hc
      have hnq : h.length ≤ h.length := Nat.le_refl _
      simp (config := { maxSteps := 10000000 }) only [run_drx, run_xd, run_xq, run_xg, run_xb, EV1, EV2, EV3, EV4, EV5, EV6, addT, istep, lenR_sl, lenR_ns, lenR_es, pickR, putD, bin1R, un1R, slcR, bnd, capsOf, fillP, S_plain, V_plain, V.cells, S_known, V_known, C.v, blk, setL, setH, eqS, eq1, cmpS, cmp1, isNil, popTo, killT, setT, leT, V.below, C.below, S_below, R.below, V.val, C.val, S_val, R.val, R.takes, vals, shows, List.any_cons, List.any_nil, unnamed, V.kill, V.names, C.names, S_names, R.names, List.set, List.replicate, ↓q_cond_t, ↓q_cond_f, if_true, if_false, reduceCtorEq, rvals, rvC, result, C_known, V.noL, C.noL, S_noL, R.noL, Option.map, true_and, and_true, ge_iff_le, gt_iff_lt, implies_true, q_ite_t, q_ite_f, beq_iff_eq, bne_iff_ne, q_ne, Nat.reduceAdd, Nat.reducePow, Int.reducePow, Nat.reduceMul, Nat.reduceSub, Nat.reduceLeDiff, Nat.reduceLT, Nat.reduceEqDiff, Int.reduceNeg, Int.reduceLT, Int.reduceLE, Int.reduceEq, Int.reduceNe, Int.reduceAdd, Int.reduceSub, Int.reduceMul, Int.reduceToNat, Int.reduceBEq, Int.reduceBNe, df80, hlen]
      refine loop_rule (α := Nat × Nat) [2, 3, 4, 6, 11, 12, 13, 14, 15, 16, 17, 18, 19, 20, 21, 22, 23, 24, 25, 26, 27] (fun x => [(4, .s (slF ((L.take x.1).map Fi.fd) x.2)), (11, .s (.i .i64 x.1))]) (fun x => lsF ((L.take x.1).map Fi.fd) x.2) (fun _ => h)
        (fun x => x.1 ≤ L.length ∧ posB (L.take x.1) = true ∧ x.1 ≤ x.2) (fun x => L.length - x.1) (0, 0) ⟨Nat.zero_le _, rfl, Nat.le_refl _⟩ ?_ ?_
      · refine Wk.same rfl rfl ?_
        simp (config := { maxSteps := 10000000 }) only [run_drx, run_xd, run_xq, run_xg, run_xb, EV1, EV2, EV3, EV4, EV5, EV6, addT, istep, lenR_sl, lenR_ns, lenR_es, pickR, putD, bin1R, un1R, slcR, bnd, capsOf, fillP, S_plain, V_plain, V.cells, S_known, V_known, C.v, blk, setL, setH, eqS, eq1, cmpS, cmp1, isNil, popTo, killT, setT, leT, V.below, C.below, S_below, R.below, V.val, C.val, S_val, R.val, R.takes, vals, shows, List.any_cons, List.any_nil, unnamed, V.kill, V.names, C.names, S_names, R.names, List.set, List.replicate, ↓q_cond_t, ↓q_cond_f, if_true, if_false, reduceCtorEq, rvals, rvC, result, C_known, V.noL, C.noL, S_noL, R.noL, Option.map, true_and, and_true, ge_iff_le, gt_iff_lt, implies_true, q_ite_t, q_ite_f, beq_iff_eq, bne_iff_ne, q_ne, Nat.reduceAdd, Nat.reducePow, Int.reducePow, Nat.reduceMul, Nat.reduceSub, Nat.reduceLeDiff, Nat.reduceLT, Nat.reduceEqDiff, Int.reduceNeg, Int.reduceLT, Int.reduceLE, Int.reduceEq, Int.reduceNe, Int.reduceAdd, Int.reduceSub, Int.reduceMul, Int.reduceToNat, Int.reduceBEq, Int.reduceBNe, slF, Int.natCast_zero, List.map_nil, List.take_zero]
      · rintro X ⟨i, cp⟩ ⟨hi, hp, hcp⟩ IH
        simp only at hi hp hcp IH ⊢
        rcases Nat.lt_or_ge i L.length with g1 | g1
        · obtain ⟨d1, d2, d3, d4⟩ := idx g1 (by omega)
          obtain ⟨j, c', st, room, hse, hj, hd⟩ := H1.at g1
          obtain ⟨y, hy⟩ : ∃ y, nth Fi.z L i = y := ⟨_, rfl⟩
          have hs : sub (arr Fi.c L) (i * 2) 2 = y.c := by rw [← hy, nth_eq g1]; exact arr_sub Fi.c_len g1
          have hle : i * 2 + 2 ≤ (arr Fi.c L).length := by
            rw [arr_length Fi.c_len]
            have : (i + 1) * 2 ≤ L.length * 2 := Nat.mul_le_mul_right _ g1
            omega
          have hjl : j < h.length := (List.getElem?_eq_some_iff.1 hj).1
          have hyL : L[i] = y := by rw [← hy, nth_eq g1]
          simp only [Fi.c] at hs
          have z2 : L.length - (i + 1) < L.length - i := by omega
          by_cases c2 : y.n < 0
          · have hB : opB L = false := by
              have : posB L = false := by
                rw [Bool.eq_false_iff]
                intro e
                simp only [posB, List.all_eq_true, decide_eq_true_eq] at e
                have := e y (by rw [← hyL]; exact List.getElem_mem _)
                omega
              simp [opB, this]
            have hV : opV L = 0 := by simp [opV, hB]
            rw [hB, hV] at hS
            refine run_sound (Tab.ok_Γ _) 200 _ _ _ _ ?_
            simp (config := { maxSteps := 10000000 }) only [run_drx, run_xd, run_xq, run_xg, run_xb, EV1, EV2, EV3, EV4, EV5, EV6, addT, istep, lenR_sl, lenR_ns, lenR_es, pickR, putD, bin1R, un1R, slcR, bnd, capsOf, fillP, S_plain, V_plain, V.cells, S_known, V_known, C.v, blk, setL, setH, eqS, eq1, cmpS, cmp1, isNil, popTo, killT, setT, leT, V.below, C.below, S_below, R.below, V.val, C.val, S_val, R.val, R.takes, vals, shows, List.any_cons, List.any_nil, unnamed, V.kill, V.names, C.names, S_names, R.names, List.set, List.replicate, ↓q_cond_t, ↓q_cond_f, if_true, if_false, reduceCtorEq, rvals, rvC, result, C_known, V.noL, C.noL, S_noL, R.noL, Option.map, true_and, and_true, ge_iff_le, gt_iff_lt, implies_true, q_ite_t, q_ite_f, beq_iff_eq, bne_iff_ne, q_ne, Nat.reduceAdd, Nat.reducePow, Int.reducePow, Nat.reduceMul, Nat.reduceSub, Nat.reduceLeDiff, Nat.reduceLT, Nat.reduceEqDiff, Int.reduceNeg, Int.reduceLT, Int.reduceLE, Int.reduceEq, Int.reduceNe, Int.reduceAdd, Int.reduceSub, Int.reduceMul, Int.reduceToNat, Int.reduceBEq, Int.reduceBNe, hse, d1, d2, d3, d4, hj, hd, hs, hle, c2, Int.toNat_natCast, put, fillP]
            exact hS
          · have hpo : posB (L.take (i + 1)) = true := by
              rw [List.take_succ_eq_append_getElem g1]
              simp only [posB, List.all_append, Bool.and_eq_true, List.all_cons, List.all_nil, Bool.and_true, decide_eq_true_eq] at hp ⊢
              exact ⟨hp, by rw [hyL]; omega⟩
            have hms : (L.take (i + 1)).map Fi.fd = (L.take i).map Fi.fd ++ [y.fd] := by
              rw [List.take_succ_eq_append_getElem g1, List.map_append, hyL]; rfl
            obtain ⟨M, hM⟩ : ∃ M, (L.take i).map Fi.fd = M := ⟨_, rfl⟩
            have hMl : M.length = i := by rw [← hM, List.length_map, List.length_take]; omega
            rw [hM] at hms ⊢
            cases M with
            | nil =>
              refine run_sound (Tab.ok_Γ _) 300 _ _ _ _ ?_
              simp (config := { maxSteps := 10000000 }) only [run_drx, run_xd, run_xq, run_xg, run_xb, EV1, EV2, EV3, EV4, EV5, EV6, addT, istep, lenR_sl, lenR_ns, lenR_es, pickR, putD, bin1R, un1R, slcR, bnd, capsOf, fillP, S_plain, V_plain, V.cells, S_known, V_known, C.v, blk, setL, setH, eqS, eq1, cmpS, cmp1, isNil, popTo, killT, setT, leT, V.below, C.below, S_below, R.below, V.val, C.val, S_val, R.val, R.takes, vals, shows, List.any_cons, List.any_nil, unnamed, V.kill, V.names, C.names, S_names, R.names, List.set, List.replicate, ↓q_cond_t, ↓q_cond_f, if_true, if_false, reduceCtorEq, rvals, rvC, result, C_known, V.noL, C.noL, S_noL, R.noL, Option.map, true_and, and_true, ge_iff_le, gt_iff_lt, implies_true, q_ite_t, q_ite_f, beq_iff_eq, bne_iff_ne, q_ne, Nat.reduceAdd, Nat.reducePow, Int.reducePow, Nat.reduceMul, Nat.reduceSub, Nat.reduceLeDiff, Nat.reduceLT, Nat.reduceEqDiff, Int.reduceNeg, Int.reduceLT, Int.reduceLE, Int.reduceEq, Int.reduceNe, Int.reduceAdd, Int.reduceSub, Int.reduceMul, Int.reduceToNat, Int.reduceBEq, Int.reduceBNe, To1, hse, d1, d2, d3, d4, hj, hd, hs, hle, c2, slF, lsF, Int.toNat_natCast, put, fillP]
              intro c3 hc3
              refine IH (i + 1, c3) _ z2 ⟨g1, hpo, by show i + 1 ≤ c3; simp only [List.length_nil] at hMl; omega⟩ ?_
              simp only
              rw [hms]
              simp only [List.nil_append]
              refine Wk.sel [2] (by decide) hnq ?_ ?_ ?_ ?_ hcq (clean_pick hcq _)
              · simp (config := { maxSteps := 10000000 }) only [run_drx, run_xd, run_xq, run_xg, run_xb, EV1, EV2, EV3, EV4, EV5, EV6, addT, istep, lenR_sl, lenR_ns, lenR_es, pickR, putD, bin1R, un1R, slcR, bnd, capsOf, fillP, S_plain, V_plain, V.cells, S_known, V_known, C.v, blk, setL, setH, eqS, eq1, cmpS, cmp1, isNil, popTo, killT, setT, leT, V.below, C.below, S_below, R.below, V.val, C.val, S_val, R.val, R.takes, vals, shows, List.any_cons, List.any_nil, unnamed, V.kill, V.names, C.names, S_names, R.names, List.set, List.replicate, ↓q_cond_t, ↓q_cond_f, if_true, if_false, reduceCtorEq, rvals, rvC, result, C_known, V.noL, C.noL, S_noL, R.noL, Option.map, true_and, and_true, ge_iff_le, gt_iff_lt, implies_true, q_ite_t, q_ite_f, beq_iff_eq, bne_iff_ne, q_ne, Nat.reduceAdd, Nat.reducePow, Int.reducePow, Nat.reduceMul, Nat.reduceSub, Nat.reduceLeDiff, Nat.reduceLT, Nat.reduceEqDiff, Int.reduceNeg, Int.reduceLT, Int.reduceLE, Int.reduceEq, Int.reduceNe, Int.reduceAdd, Int.reduceSub, Int.reduceMul, Int.reduceToNat, Int.reduceBEq, Int.reduceBNe, List.nil_append, Blk.ren, V.ren, C.ren, S_ren, wc_ren, R.pick_g, R.pick_0, R.pick_s, List.map_append, wc_cons, wc_snoc, wc_nil, slF, lsF, hjl, hse, hp1, hv1, arr, Fd.c, Fi.fd]
              · simp (config := { maxSteps := 10000000 }) only [run_drx, run_xd, run_xq, run_xg, run_xb, EV1, EV2, EV3, EV4, EV5, EV6, addT, istep, lenR_sl, lenR_ns, lenR_es, pickR, putD, bin1R, un1R, slcR, bnd, capsOf, fillP, S_plain, V_plain, V.cells, S_known, V_known, C.v, blk, setL, setH, eqS, eq1, cmpS, cmp1, isNil, popTo, killT, setT, leT, V.below, C.below, S_below, R.below, V.val, C.val, S_val, R.val, R.takes, vals, shows, List.any_cons, List.any_nil, unnamed, V.kill, V.names, C.names, S_names, R.names, List.set, List.replicate, ↓q_cond_t, ↓q_cond_f, if_true, if_false, reduceCtorEq, rvals, rvC, result, C_known, V.noL, C.noL, S_noL, R.noL, Option.map, true_and, and_true, ge_iff_le, gt_iff_lt, implies_true, q_ite_t, q_ite_f, beq_iff_eq, bne_iff_ne, q_ne, Nat.reduceAdd, Nat.reducePow, Int.reducePow, Nat.reduceMul, Nat.reduceSub, Nat.reduceLeDiff, Nat.reduceLT, Nat.reduceEqDiff, Int.reduceNeg, Int.reduceLT, Int.reduceLE, Int.reduceEq, Int.reduceNe, Int.reduceAdd, Int.reduceSub, Int.reduceMul, Int.reduceToNat, Int.reduceBEq, Int.reduceBNe, List.nil_append, Blk.ren, V.ren, C.ren, S_ren, wc_ren, R.pick_g, R.pick_0, R.pick_s, slF, lsF, hjl, hse, hp1, hv1, arr, Fd.c, Fi.fd]
              · simp (config := { maxSteps := 10000000 }) only [run_drx, run_xd, run_xq, run_xg, run_xb, EV1, EV2, EV3, EV4, EV5, EV6, addT, istep, lenR_sl, lenR_ns, lenR_es, pickR, putD, bin1R, un1R, slcR, bnd, capsOf, fillP, S_plain, V_plain, V.cells, S_known, V_known, C.v, blk, setL, setH, eqS, eq1, cmpS, cmp1, isNil, popTo, killT, setT, leT, V.below, C.below, S_below, R.below, V.val, C.val, S_val, R.val, R.takes, vals, shows, List.any_cons, List.any_nil, unnamed, V.kill, V.names, C.names, S_names, R.names, List.set, List.replicate, ↓q_cond_t, ↓q_cond_f, if_true, if_false, reduceCtorEq, rvals, rvC, result, C_known, V.noL, C.noL, S_noL, R.noL, Option.map, true_and, and_true, ge_iff_le, gt_iff_lt, implies_true, q_ite_t, q_ite_f, beq_iff_eq, bne_iff_ne, q_ne, Nat.reduceAdd, Nat.reducePow, Int.reducePow, Nat.reduceMul, Nat.reduceSub, Nat.reduceLeDiff, Nat.reduceLT, Nat.reduceEqDiff, Int.reduceNeg, Int.reduceLT, Int.reduceLE, Int.reduceEq, Int.reduceNe, Int.reduceAdd, Int.reduceSub, Int.reduceMul, Int.reduceToNat, Int.reduceBEq, Int.reduceBNe, List.nil_append, app_len, nlt0, nltn, Nat.reduceLT, Nat.le_add_right, slF, lsF, hjl, hse, hp1, hv1, arr, Fd.c, Fi.fd]
              · simp (config := { maxSteps := 10000000 }) only [run_drx, run_xd, run_xq, run_xg, run_xb, EV1, EV2, EV3, EV4, EV5, EV6, addT, istep, lenR_sl, lenR_ns, lenR_es, pickR, putD, bin1R, un1R, slcR, bnd, capsOf, fillP, S_plain, V_plain, V.cells, S_known, V_known, C.v, blk, setL, setH, eqS, eq1, cmpS, cmp1, isNil, popTo, killT, setT, leT, V.below, C.below, S_below, R.below, V.val, C.val, S_val, R.val, R.takes, vals, shows, List.any_cons, List.any_nil, unnamed, V.kill, V.names, C.names, S_names, R.names, List.set, List.replicate, ↓q_cond_t, ↓q_cond_f, if_true, if_false, reduceCtorEq, rvals, rvC, result, C_known, V.noL, C.noL, S_noL, R.noL, Option.map, true_and, and_true, ge_iff_le, gt_iff_lt, implies_true, q_ite_t, q_ite_f, beq_iff_eq, bne_iff_ne, q_ne, Nat.reduceAdd, Nat.reducePow, Int.reducePow, Nat.reduceMul, Nat.reduceSub, Nat.reduceLeDiff, Nat.reduceLT, Nat.reduceEqDiff, Int.reduceNeg, Int.reduceLT, Int.reduceLE, Int.reduceEq, Int.reduceNe, Int.reduceAdd, Int.reduceSub, Int.reduceMul, Int.reduceToNat, Int.reduceBEq, Int.reduceBNe, List.nil_append, app_len, nlt0, nltn, Nat.reduceLT, Nat.le_add_right, vals_cons, vals_nil, wc_val, wc_vals, slF, lsF, hjl, hse, hp1, hv1, arr, Fd.c, Fi.fd]
            | cons z M =>
              have hk2 := fd_known (z :: M)
              have hn2 := fd_names (z :: M)
              have hl2 := fd_len (z :: M)
              have hsn := fd_snoc (z :: M) y.fd
              simp only [List.length_cons] at hMl hl2
              have hby : (M.length + 1 + 1) * 16 ≤ 140737488355328 := by omega
              have hcp2 : M.length + 1 ≤ cp := by omega
              simp only [Fd.c, Fi.fd, List.cons_append] at hsn
              refine run_sound (Tab.ok_Γ _) 300 _ _ _ _ ?_
              simp (config := { maxSteps := 10000000 }) only [run_drx, run_xd, run_xq, run_xg, run_xb, EV1, EV2, EV3, EV4, EV5, EV6, addT, istep, lenR_sl, lenR_ns, lenR_es, pickR, putD, bin1R, un1R, slcR, bnd, capsOf, fillP, S_plain, V_plain, V.cells, S_known, V_known, C.v, blk, setL, setH, eqS, eq1, cmpS, cmp1, isNil, popTo, killT, setT, leT, V.below, C.below, S_below, R.below, V.val, C.val, S_val, R.val, R.takes, vals, shows, List.any_cons, List.any_nil, unnamed, V.kill, V.names, C.names, S_names, R.names, List.set, List.replicate, ↓q_cond_t, ↓q_cond_f, if_true, if_false, reduceCtorEq, rvals, rvC, result, C_known, V.noL, C.noL, S_noL, R.noL, Option.map, true_and, and_true, ge_iff_le, gt_iff_lt, implies_true, q_ite_t, q_ite_f, beq_iff_eq, bne_iff_ne, q_ne, Nat.reduceAdd, Nat.reducePow, Int.reducePow, Nat.reduceMul, Nat.reduceSub, Nat.reduceLeDiff, Nat.reduceLT, Nat.reduceEqDiff, Int.reduceNeg, Int.reduceLT, Int.reduceLE, Int.reduceEq, Int.reduceNe, Int.reduceAdd, Int.reduceSub, Int.reduceMul, Int.reduceToNat, Int.reduceBEq, Int.reduceBNe, To1, hse, d1, d2, d3, d4, hj, hd, hs, hle, c2, slF, lsF, hk2, hn2, hl2, hby, hcp2, hnm, Int.toNat_natCast, put, fillP]
              intro c3 hc3
              refine IH (i + 1, c3) _ z2 ⟨g1, hpo, by show i + 1 ≤ c3; omega⟩ ?_
              simp only
              rw [hms]
              refine Wk.keep 1 ?_ rfl ?_ ?_ ?_
              all_goals simp (config := { maxSteps := 10000000 }) only [run_drx, run_xd, run_xq, run_xg, run_xb, EV1, EV2, EV3, EV4, EV5, EV6, addT, istep, lenR_sl, lenR_ns, lenR_es, pickR, putD, bin1R, un1R, slcR, bnd, capsOf, fillP, S_plain, V_plain, V.cells, S_known, V_known, C.v, blk, setL, setH, eqS, eq1, cmpS, cmp1, isNil, popTo, killT, setT, leT, V.below, C.below, S_below, R.below, V.val, C.val, S_val, R.val, R.takes, vals, shows, List.any_cons, List.any_nil, unnamed, V.kill, V.names, C.names, S_names, R.names, List.set, List.replicate, ↓q_cond_t, ↓q_cond_f, if_true, if_false, reduceCtorEq, rvals, rvC, result, C_known, V.noL, C.noL, S_noL, R.noL, Option.map, true_and, and_true, ge_iff_le, gt_iff_lt, implies_true, q_ite_t, q_ite_f, beq_iff_eq, bne_iff_ne, q_ne, Nat.reduceAdd, Nat.reducePow, Int.reducePow, Nat.reduceMul, Nat.reduceSub, Nat.reduceLeDiff, Nat.reduceLT, Nat.reduceEqDiff, Int.reduceNeg, Int.reduceLT, Int.reduceLE, Int.reduceEq, Int.reduceNe, Int.reduceAdd, Int.reduceSub, Int.reduceMul, Int.reduceToNat, Int.reduceBEq, Int.reduceBNe, hse, hsn, slF, lsF, hb1, fd_below, List.cons_append, List.all_append, List.length_append, List.take_succ_cons, List.take_zero, Fi.fd, Fd.c]
        · have hiL : i = L.length := by omega
          subst hiL
          have g2 : ¬ ((L.length : Int) < L.length) := Int.lt_irrefl _
          rw [List.take_length] at hp ⊢
          obtain ⟨M, hM⟩ : ∃ M, L.map Fi.fd = M := ⟨_, rfl⟩
          have hMl : M.length = L.length := by rw [← hM, List.length_map]
          have hB : opB L = packB M 0 := by simp only [opB, hp, Bool.true_and, hM]
          have hV : opV L = if packB M 0 then packV M 0 else 0 := by simp only [opV, hB, hM]
          rw [hB, hV] at hS
          rw [hM]
          cases M with
          | nil =>
            simp only [packB, packV, if_true] at hS
            refine run_sound (Tab.ok_Γ _) 300 _ _ _ _ ?_
            simp (config := { maxSteps := 10000000 }) only [run_drx, run_xd, run_xq, run_xg, run_xb, EV1, EV2, EV3, EV4, EV5, EV6, addT, istep, lenR_sl, lenR_ns, lenR_es, pickR, putD, bin1R, un1R, slcR, bnd, capsOf, fillP, S_plain, V_plain, V.cells, S_known, V_known, C.v, blk, setL, setH, eqS, eq1, cmpS, cmp1, isNil, popTo, killT, setT, leT, V.below, C.below, S_below, R.below, V.val, C.val, S_val, R.val, R.takes, vals, shows, List.any_cons, List.any_nil, unnamed, V.kill, V.names, C.names, S_names, R.names, List.set, List.replicate, ↓q_cond_t, ↓q_cond_f, if_true, if_false, reduceCtorEq, rvals, rvC, result, C_known, V.noL, C.noL, S_noL, R.noL, Option.map, true_and, and_true, ge_iff_le, gt_iff_lt, implies_true, q_ite_t, q_ite_f, beq_iff_eq, bne_iff_ne, q_ne, Nat.reduceAdd, Nat.reducePow, Int.reducePow, Nat.reduceMul, Nat.reduceSub, Nat.reduceLeDiff, Nat.reduceLT, Nat.reduceEqDiff, Int.reduceNeg, Int.reduceLT, Int.reduceLE, Int.reduceEq, Int.reduceNe, Int.reduceAdd, Int.reduceSub, Int.reduceMul, Int.reduceToNat, Int.reduceBEq, Int.reduceBNe, To1, g2, slF, lsF, packG]
            exact hS
          | cons z M =>
            have hu : ∀ f, f ∈ z :: M → u64 f.v := fun f hf => by
              rw [← hM] at hf
              obtain ⟨x, _, rfl⟩ := List.mem_map.1 hf
              exact fd_u x
            have hdf := decF_arr (z :: M)
            have hts : List.take M.length M = M := List.take_length
            have hl9 : M.length + 1 ≤ 9223372036854775807 := by simp only [List.length_cons] at hMl; omega
            have hl8 : M.length + 1 ≤ (z :: M).length := Nat.le_refl _
            cases hb : packB (z :: M) 0 with
            | true =>
              simp only [hb, if_true] at hS
              refine run_sound (Tab.ok_Γ _) 300 _ _ _ _ ?_
              simp (config := { maxSteps := 10000000 }) only [run_drx, run_xd, run_xq, run_xg, run_xb, EV1, EV2, EV3, EV4, EV5, EV6, addT, istep, lenR_sl, lenR_ns, lenR_es, pickR, putD, bin1R, un1R, slcR, bnd, capsOf, fillP, S_plain, V_plain, V.cells, S_known, V_known, C.v, blk, setL, setH, eqS, eq1, cmpS, cmp1, isNil, popTo, killT, setT, leT, V.below, C.below, S_below, R.below, V.val, C.val, S_val, R.val, R.takes, vals, shows, List.any_cons, List.any_nil, unnamed, V.kill, V.names, C.names, S_names, R.names, List.set, List.replicate, ↓q_cond_t, ↓q_cond_f, if_true, if_false, reduceCtorEq, rvals, rvC, result, C_known, V.noL, C.noL, S_noL, R.noL, Option.map, true_and, and_true, ge_iff_le, gt_iff_lt, implies_true, q_ite_t, q_ite_f, beq_iff_eq, bne_iff_ne, q_ne, Nat.reduceAdd, Nat.reducePow, Int.reducePow, Nat.reduceMul, Nat.reduceSub, Nat.reduceLeDiff, Nat.reduceLT, Nat.reduceEqDiff, Int.reduceNeg, Int.reduceLT, Int.reduceLE, Int.reduceEq, Int.reduceNe, Int.reduceAdd, Int.reduceSub, Int.reduceMul, Int.reduceToNat, Int.reduceBEq, Int.reduceBNe, To1, g2, slF, lsF, packG, R.lend, R.unlend, S_ren, C.ren, V.ren, app_taken, app_dropn, app_take0, app_drop0, List.take_succ_cons, List.take_zero, List.drop_succ_cons, List.drop_zero, Nat.not_lt_zero, Nat.lt_irrefl, Nat.add_sub_cancel_left, Nat.not_lt, Nat.le_add_right, Blk.ren, fd_ren, ↓hdf, hts, hl9, hl8, hu, hb]
              exact ⟨hu, hc, hS⟩
            | false =>
              simp only [hb, if_false, Bool.false_eq_true] at hS
              refine run_sound (Tab.ok_Γ _) 300 _ _ _ _ ?_
              simp (config := { maxSteps := 10000000 }) only [run_drx, run_xd, run_xq, run_xg, run_xb, EV1, EV2, EV3, EV4, EV5, EV6, addT, istep, lenR_sl, lenR_ns, lenR_es, pickR, putD, bin1R, un1R, slcR, bnd, capsOf, fillP, S_plain, V_plain, V.cells, S_known, V_known, C.v, blk, setL, setH, eqS, eq1, cmpS, cmp1, isNil, popTo, killT, setT, leT, V.below, C.below, S_below, R.below, V.val, C.val, S_val, R.val, R.takes, vals, shows, List.any_cons, List.any_nil, unnamed, V.kill, V.names, C.names, S_names, R.names, List.set, List.replicate, ↓q_cond_t, ↓q_cond_f, if_true, if_false, reduceCtorEq, rvals, rvC, result, C_known, V.noL, C.noL, S_noL, R.noL, Option.map, true_and, and_true, ge_iff_le, gt_iff_lt, implies_true, q_ite_t, q_ite_f, beq_iff_eq, bne_iff_ne, q_ne, Nat.reduceAdd, Nat.reducePow, Int.reducePow, Nat.reduceMul, Nat.reduceSub, Nat.reduceLeDiff, Nat.reduceLT, Nat.reduceEqDiff, Int.reduceNeg, Int.reduceLT, Int.reduceLE, Int.reduceEq, Int.reduceNe, Int.reduceAdd, Int.reduceSub, Int.reduceMul, Int.reduceToNat, Int.reduceBEq, Int.reduceBNe, To1, g2, slF, lsF, packG, R.lend, R.unlend, S_ren, C.ren, V.ren, app_taken, app_dropn, app_take0, app_drop0, List.take_succ_cons, List.take_zero, List.drop_succ_cons, List.drop_zero, Nat.not_lt_zero, Nat.lt_irrefl, Nat.add_sub_cancel_left, Nat.not_lt, Nat.le_add_right, Blk.ren, fd_ren, ↓hdf, hts, hl9, hl8, hu, hb]
              exact ⟨hu, hc, hS⟩
    · exact hS.elim
  · exact hS.elim
end Go.Proofs.Ytdlloccodmdnnaa

