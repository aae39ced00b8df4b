/- CspaceLocal, CspaceDeeper, CspaceGuards, CspaceShort, CspaceMasks, CspaceResolves: for every input the law's Go function answers true, and its arguments read behind the call as before. No conditions. -/
import Derived.Test.YtdlloccodmdnnaaZ1
import Derived.Test.YtdlloccodmdnnaaZ4
import Derived.Test.YtdlloccodmdnnaaZ2
import Derived.Test.YtdlloccodmdnnaaRows
/- Law 10: CspaceLocal: the second list. -/
namespace Go.Proofs.Ytdlloccodmdnnaa
open Go.D
set_option linter.all false
set_option maxRecDepth 100000
set_option maxHeartbeats 8000000

section
variable (L : List Lay)
theorem lay_all {p : S → Bool} (hp : ∀ k x, p (.i k x) = true) : (arr Lay.cl L).all p = true := by
  rw [arr_all, List.all_eq_true]
  intro x _
  simp [Lay.cl, Cap.cl, hp]
theorem lay_known : known (arr Lay.cl L) = true := by unfold known; exact lay_all L fun _ _ => rfl
theorem lay_vals (n k : Nat) : vals n k (arr Lay.cl L) = true := by unfold vals; exact lay_all L fun _ _ => rfl
theorem lay_below (n : Nat) : (arr Lay.cl L).all (S.below n) = true := lay_all L fun _ _ => rfl
theorem lay_names (n : Nat) : (arr Lay.cl L).all (fun s => !s.names n) = true := lay_all L fun _ _ => rfl
theorem lay_valall (n k : Nat) : (arr Lay.cl L).all (S.val n k) = true := lay_all L fun _ _ => rfl
theorem lay_ren (ρ : R → R) : (arr Lay.cl L).map (S.ren ρ) = arr Lay.cl L := by
  induction L with
  | nil => rfl
  | cons x L ih => simp only [arr, List.map_append, ih]; rfl
theorem lay_len : (arr Lay.cl L).length = L.length * 12 := arr_length Lay.cl_len L
end
theorem lay_snoc (L : List Lay) (x : Lay) : arr Lay.cl (L ++ [x]) = arr Lay.cl L ++ x.cl := by rw [arr_append]; simp [arr]
theorem lay_nil : arr Lay.cl [] = [] := by rfl
/-- The cells that such a slice shows. -/
theorem IsArr.shows {h : List Blk} {s : S} {L : List Lay} (H : IsArr Lay.cl h s L) (ls : List Blk) : shows ls h 12 s = some (L.length, arr Lay.cl L) := by
  rcases H with ⟨rfl | ⟨a, c, rfl⟩, rfl⟩ | ⟨j, c, st, room, rfl, e1, e2⟩
  · rfl
  · rfl
  · simp only [D.shows, blk, e1]
    have hle : ¬ (arr Lay.cl L).length < 0 + L.length * 12 := by rw [lay_len]; omega
    have hsub : sub (arr Lay.cl L) 0 (L.length * 12) = arr Lay.cl L := by simp only [sub, List.drop_zero]; rw [← lay_len, List.take_length]
    by_cases h0 : L.length = 0
    · have : L = [] := List.eq_nil_of_length_eq_zero h0
      subst this
      by_cases hd : st = .dead
      · rw [if_pos (.inl hd)]; rfl
      · rw [if_neg (by simp [hd]), hsub]
    · rw [if_neg (by simp only [not_or]; exact ⟨e2 h0, hle⟩), hsub]
def local1T (w d : Int) (q : Nat) (s2 x : S) : List V := setT [(2, .s (.i .u64 w)), (3, .s (.i .i64 d)), (4, .s s2), (6, .s (.p (.g q) 0)), (11, .s (.b true)), (12, .s x)] (List.replicate 174 (.s .u))
theorem local_end1 {n0 : Nat} {K : V → List Blk → Prop} {H : List Blk} {q : Nat} {s2 x : S} {low more : List Lay} {c : Cap} {w d : Int} (hn0 : n0 ≤ H.length) (hH : clean H.length H = true) (hq : H[q]? = some ⟨.rw, c.cl, 11⟩) (h1 : IsArr Lay.cl H x low) (h2 : IsArr Lay.cl H s2 more) (l1 : low.length ≤ 50) (l2 : more.length ≤ 9223372036854775807) (hu : u64 w)
    (hlow : ∀ x, x ∈ low → x.low) (hK : ∀ h', K (.s (.b true)) h') :
    swp T10.Γ n0 (finP df3.res K) [.c (DC.after 4 df3.body)] ⟨local1T w d q s2 x, [], H⟩ := by
  have hlen2 := fun ls h' => h2.sl.len (ls := ls) (h := h')
  have hlen1 := fun ls h' => h1.sl.len (ls := ls) (h := h')
  have hsh := fun ls => h1.shows ls
  have hk1 := lay_known low
  have hn1 := lay_names low
  have hv1 := lay_valall low
  have hb1 : ∀ k, S.below k x = true := h1.sl.below
  have hb2 : ∀ k, S.below k s2 = true := h2.sl.below
  have hnm1 := fun k => h1.sl.names k
  have hnm2 := fun k => h2.sl.names k
  have hvs1 : ∀ j k, S.val (H.length + j) k x = true := fun j k => h1.sl.val (by omega)
  have hvs2 : ∀ j k, S.val (H.length + j) k s2 = true := fun j k => h2.sl.val (by omega)
  have hpl : ∀ d, s2.ren (R.unl H.length d) = s2 ∧ x.ren (R.unl H.length d) = x := fun d => by
    have : ∀ (s : S) (n : Nat), IsSl H.length s n → s.ren (R.unl H.length d) = s := fun s n hs => by
      rcases hs with ⟨rfl, _⟩ | ⟨a, c, rfl, _⟩ | ⟨j, o, c, rfl, hj⟩
      · rfl
      · rfl
      · simp only [S.ren, R.unl_lt hj]
    exact ⟨this s2 _ h2.sl, this x _ h1.sl⟩
  have hby : low.length * 96 ≤ 140737488355328 := by omega
  refine cut_at 2 ?_
  simp only [DC.after, df3]
  refine run_sound (Tab.ok_Γ _) 200 _ _ _ _ ?_
  simp (config := { maxSteps := 10000000 }) only [EV1, EV2, EV3, EV4, EV5, EV6, addT, istep, lenR_sl, lenR_ns, lenR_es, pickR, putD, bin1R, un1R, slcR, bnd, capsOf, fillP, S_plain, V_plain, V.cells, S_known, V_known, C.v, blk, setL, setH, eqS, eq1, cmpS, cmp1, isNil, popTo, killT, setT, leT, V.below, C.below, S_below, R.below, V.val, C.val, S_val, R.val, R.takes, vals, shows, List.any_cons, List.any_nil, unnamed, V.kill, V.names, C.names, S_names, R.names, List.set, List.replicate, ↓q_cond_t, ↓q_cond_f, if_true, if_false, reduceCtorEq, rvals, rvC, result, C_known, V.noL, C.noL, S_noL, R.noL, Option.map, true_and, and_true, ge_iff_le, gt_iff_lt, implies_true, q_ite_t, q_ite_f, beq_iff_eq, bne_iff_ne, q_ne, Nat.reduceAdd, Nat.reducePow, Int.reducePow, Nat.reduceMul, Nat.reduceSub, Nat.reduceLeDiff, Nat.reduceLT, Nat.reduceEqDiff, Int.reduceNeg, Int.reduceLT, Int.reduceLE, Int.reduceEq, Int.reduceNe, Int.reduceAdd, Int.reduceSub, Int.reduceMul, Int.reduceToNat, Int.reduceBEq, Int.reduceBNe, local1T, setT, ↓hsh, hk1, hn1, hv1, hnm1, hnm2, List.nil_append, put, fillP]
  refine ⟨hby, fun c1 hc1 => ?_⟩
  refine loop_rule (α := Nat × List Lay × Nat) (79 :: 81 :: [16, 17, 82, 83, 84, 85, 86, 87, 88, 89, 90, 91, 92, 93, 94, 95, 96, 97, 98, 99, 100, 101, 102, 103, 104]) (fun x => [(16, .s (.sl (.l 0) 0 (low ++ x.2.1).length x.2.2)), (17, .s (.i .i64 x.1))]) (fun x => [⟨.rw, arr Lay.cl (low ++ x.2.1), x.2.2 * 12⟩]) (fun _ => H)
    (fun x => x.1 ≤ more.length ∧ x.1 ≤ 40 ∧ x.2.1.length ≤ x.1 ∧ (∀ y, y ∈ x.2.1 → 2048 ≤ y.at_) ∧ (low ++ x.2.1).length ≤ x.2.2) (fun x => more.length - x.1) (0, [], c1) ⟨Nat.zero_le _, Nat.zero_le _, Nat.le_refl _, (by intro y hy; simp at hy), by simpa using hc1⟩ ?_ ?_
  · refine Wk.same (by simp only [List.append_nil]) rfl ?_
    simp (config := { maxSteps := 10000000 }) only [EV1, EV2, EV3, EV4, EV5, EV6, addT, istep, lenR_sl, lenR_ns, lenR_es, pickR, putD, bin1R, un1R, slcR, bnd, capsOf, fillP, S_plain, V_plain, V.cells, S_known, V_known, C.v, blk, setL, setH, eqS, eq1, cmpS, cmp1, isNil, popTo, killT, setT, leT, V.below, C.below, S_below, R.below, V.val, C.val, S_val, R.val, R.takes, vals, shows, List.any_cons, List.any_nil, unnamed, V.kill, V.names, C.names, S_names, R.names, List.set, List.replicate, ↓q_cond_t, ↓q_cond_f, if_true, if_false, reduceCtorEq, rvals, rvC, result, C_known, V.noL, C.noL, S_noL, R.noL, Option.map, true_and, and_true, ge_iff_le, gt_iff_lt, implies_true, q_ite_t, q_ite_f, beq_iff_eq, bne_iff_ne, q_ne, Nat.reduceAdd, Nat.reducePow, Int.reducePow, Nat.reduceMul, Nat.reduceSub, Nat.reduceLeDiff, Nat.reduceLT, Nat.reduceEqDiff, Int.reduceNeg, Int.reduceLT, Int.reduceLE, Int.reduceEq, Int.reduceNe, Int.reduceAdd, Int.reduceSub, Int.reduceMul, Int.reduceToNat, Int.reduceBEq, Int.reduceBNe, List.append_nil, Int.natCast_zero]
  · rintro X ⟨i, M, cp⟩ ⟨hi, hi2, hM, hM2, hcp⟩ IH
    simp only at hi hi2 hM hM2 hcp IH ⊢
    obtain ⟨b, hb⟩ : ∃ b, low ++ M = b := ⟨_, rfl⟩
    have hbl : b.length ≤ 90 := by rw [← hb, List.length_append]; omega
    have hql := (List.getElem?_eq_some_iff.1 hq).1
    have hqu : ∀ d, R.unl H.length d (.g q) = .g q := fun d => R.unl_lt hql
    have hqv : q < H.length + 1 := by omega
    have hh1 : H.length < H.length + 1 := by omega
    have fin := local_end2 (n0 := n0) (K := K) (H := H ++ [⟨.rw, arr Lay.cl b, cp * 12⟩]) (q := q) (x := x) (y := .sl (.g H.length) 0 b.length cp) (low := low) (both := b) (c := c) (w := w) (d := d)
      (by refine clean_app hH (by simp) ?_; simp only [clean, List.all_cons, List.all_nil, Bool.and_true]; exact lay_vals _ _ _) (by rw [app_getl (List.getElem?_eq_some_iff.1 hq).1, hq]) h1.app (.inr ⟨H.length, cp, .rw, cp * 12, rfl, by rw [app_get0]; rfl, fun _ => by simp⟩) l1 hbl hu
      (fun g1 g2 g3 => by rw [← hb]; exact rsl_local hlow hM2 l1 (by omega) g1 g2 g3) hK
    have hk2 := lay_known b
    have hn2 := lay_names b
    have hl2 := lay_len b
    have hcp' : b.length ≤ cp := by rw [← hb]; exact hcp
    rw [hb]
    by_cases hx : i < more.length ∧ i < 40
    · obtain ⟨g1, g40⟩ := hx
      obtain ⟨d1, d2, d3, d4⟩ := idx g1 l2
      have d5 : (i : Int) < 40 := by omega
      obtain ⟨j, c', st, room, hse, hj, hd⟩ := h2.at g1
      obtain ⟨y, hy⟩ : ∃ y, nth layZ more i = y := ⟨_, rfl⟩
      have hs : sub (arr Lay.cl more) (i * 12) 12 = y.cl := by rw [← hy, nth_eq g1]; exact arr_sub Lay.cl_len g1
      have g0 : (arr Lay.cl more)[i * 12]? = some (.i .i64 y.at_) := by rw [arr_get0 Lay.cl_len g1 (by omega), ← nth_eq (d := layZ) g1, hy]; rfl
      have hle : i * 12 + 12 ≤ (arr Lay.cl more).length := by
        rw [lay_len]
        have : (i + 1) * 12 ≤ more.length * 12 := Nat.mul_le_mul_right _ g1
        omega
      by_cases c2 : 2048 ≤ y.at_
      · have hby2 : (b.length + 1) * 96 ≤ 140737488355328 := by omega
        have hsn := lay_snoc b y
        simp only [Lay.cl, Cap.cl] at hs hsn
        refine run_sound (Tab.ok_Γ _) 200 _ _ _ _ ?_
        simp (config := { maxSteps := 10000000 }) only [EV1, EV2, EV3, EV4, EV5, EV6, addT, istep, lenR_sl, lenR_ns, lenR_es, pickR, putD, bin1R, un1R, slcR, bnd, capsOf, fillP, S_plain, V_plain, V.cells, S_known, V_known, C.v, blk, setL, setH, eqS, eq1, cmpS, cmp1, isNil, popTo, killT, setT, leT, V.below, C.below, S_below, R.below, V.val, C.val, S_val, R.val, R.takes, vals, shows, List.any_cons, List.any_nil, unnamed, V.kill, V.names, C.names, S_names, R.names, List.set, List.replicate, ↓q_cond_t, ↓q_cond_f, if_true, if_false, reduceCtorEq, rvals, rvC, result, C_known, V.noL, C.noL, S_noL, R.noL, Option.map, true_and, and_true, ge_iff_le, gt_iff_lt, implies_true, q_ite_t, q_ite_f, beq_iff_eq, bne_iff_ne, q_ne, Nat.reduceAdd, Nat.reducePow, Int.reducePow, Nat.reduceMul, Nat.reduceSub, Nat.reduceLeDiff, Nat.reduceLT, Nat.reduceEqDiff, Int.reduceNeg, Int.reduceLT, Int.reduceLE, Int.reduceEq, Int.reduceNe, Int.reduceAdd, Int.reduceSub, Int.reduceMul, Int.reduceToNat, Int.reduceBEq, Int.reduceBNe, hse, d1, d2, d3, d4, d5, hj, hd, g0, hs, hle, c2, hk2, hn2, hl2, hcp', hby2, Int.toNat_natCast, put, fillP]
        intro c3 hc3
        refine IH (i + 1, M ++ [y], c3) _ (by show more.length - (i + 1) < more.length - i; omega) ⟨g1, g40, by show (M ++ [y]).length ≤ i + 1; rw [List.length_append]; simp only [List.length_cons, List.length_nil]; omega, ?_, ?_⟩ ?_
        · intro z hz
          rcases List.mem_append.1 hz with h3 | h3
          · exact hM2 z h3
          · simp only [List.mem_singleton] at h3; subst h3; exact c2
        · rw [← List.append_assoc, hb, List.length_append]; simpa using hc3
        · rw [← List.append_assoc, hb]
          refine Wk.keep 1 ?_ rfl ?_ ?_ ?_
          all_goals simp (config := { maxSteps := 10000000 }) only [EV1, EV2, EV3, EV4, EV5, EV6, addT, istep, lenR_sl, lenR_ns, lenR_es, pickR, putD, bin1R, un1R, slcR, bnd, capsOf, fillP, S_plain, V_plain, V.cells, S_known, V_known, C.v, blk, setL, setH, eqS, eq1, cmpS, cmp1, isNil, popTo, killT, setT, leT, V.below, C.below, S_below, R.below, V.val, C.val, S_val, R.val, R.takes, vals, shows, List.any_cons, List.any_nil, unnamed, V.kill, V.names, C.names, S_names, R.names, List.set, List.replicate, ↓q_cond_t, ↓q_cond_f, if_true, if_false, reduceCtorEq, rvals, rvC, result, C_known, V.noL, C.noL, S_noL, R.noL, Option.map, true_and, and_true, ge_iff_le, gt_iff_lt, implies_true, q_ite_t, q_ite_f, beq_iff_eq, bne_iff_ne, q_ne, Nat.reduceAdd, Nat.reducePow, Int.reducePow, Nat.reduceMul, Nat.reduceSub, Nat.reduceLeDiff, Nat.reduceLT, Nat.reduceEqDiff, Int.reduceNeg, Int.reduceLT, Int.reduceLE, Int.reduceEq, Int.reduceNe, Int.reduceAdd, Int.reduceSub, Int.reduceMul, Int.reduceToNat, Int.reduceBEq, Int.reduceBNe, hse, hsn, hnm1, lay_below, hb1, List.all_append, List.take_succ_cons, List.take_zero]
      · refine run_sound (Tab.ok_Γ _) 200 _ _ _ _ ?_
        simp (config := { maxSteps := 10000000 }) only [EV1, EV2, EV3, EV4, EV5, EV6, addT, istep, lenR_sl, lenR_ns, lenR_es, pickR, putD, bin1R, un1R, slcR, bnd, capsOf, fillP, S_plain, V_plain, V.cells, S_known, V_known, C.v, blk, setL, setH, eqS, eq1, cmpS, cmp1, isNil, popTo, killT, setT, leT, V.below, C.below, S_below, R.below, V.val, C.val, S_val, R.val, R.takes, vals, shows, List.any_cons, List.any_nil, unnamed, V.kill, V.names, C.names, S_names, R.names, List.set, List.replicate, ↓q_cond_t, ↓q_cond_f, if_true, if_false, reduceCtorEq, rvals, rvC, result, C_known, V.noL, C.noL, S_noL, R.noL, Option.map, true_and, and_true, ge_iff_le, gt_iff_lt, implies_true, q_ite_t, q_ite_f, beq_iff_eq, bne_iff_ne, q_ne, Nat.reduceAdd, Nat.reducePow, Int.reducePow, Nat.reduceMul, Nat.reduceSub, Nat.reduceLeDiff, Nat.reduceLT, Nat.reduceEqDiff, Int.reduceNeg, Int.reduceLT, Int.reduceLE, Int.reduceEq, Int.reduceNe, Int.reduceAdd, Int.reduceSub, Int.reduceMul, Int.reduceToNat, Int.reduceBEq, Int.reduceBNe, hse, d1, d2, d3, d4, d5, hj, hd, g0, hs, hle, c2, Int.toNat_natCast, put, fillP]
        refine IH (i + 1, M, cp) _ (by show more.length - (i + 1) < more.length - i; omega) ⟨g1, g40, by show M.length ≤ i + 1; omega, hM2, hcp⟩ ?_
        rw [hb]
        refine Wk.same rfl rfl ?_
        simp (config := { maxSteps := 10000000 }) only [EV1, EV2, EV3, EV4, EV5, EV6, addT, istep, lenR_sl, lenR_ns, lenR_es, pickR, putD, bin1R, un1R, slcR, bnd, capsOf, fillP, S_plain, V_plain, V.cells, S_known, V_known, C.v, blk, setL, setH, eqS, eq1, cmpS, cmp1, isNil, popTo, killT, setT, leT, V.below, C.below, S_below, R.below, V.val, C.val, S_val, R.val, R.takes, vals, shows, List.any_cons, List.any_nil, unnamed, V.kill, V.names, C.names, S_names, R.names, List.set, List.replicate, ↓q_cond_t, ↓q_cond_f, if_true, if_false, reduceCtorEq, rvals, rvC, result, C_known, V.noL, C.noL, S_noL, R.noL, Option.map, true_and, and_true, ge_iff_le, gt_iff_lt, implies_true, q_ite_t, q_ite_f, beq_iff_eq, bne_iff_ne, q_ne, Nat.reduceAdd, Nat.reducePow, Int.reducePow, Nat.reduceMul, Nat.reduceSub, Nat.reduceLeDiff, Nat.reduceLT, Nat.reduceEqDiff, Int.reduceNeg, Int.reduceLT, Int.reduceLE, Int.reduceEq, Int.reduceNe, Int.reduceAdd, Int.reduceSub, Int.reduceMul, Int.reduceToNat, Int.reduceBEq, Int.reduceBNe, hse]
    · have hcond : ¬ ((i : Int) < more.length) ∨ ¬ ((i : Int) < 40) := by omega
      by_cases g1 : (i : Int) < more.length
      · have g2 : ¬ (i : Int) < 40 := by omega
        refine run_sound (Tab.ok_Γ _) 200 _ _ _ _ ?_
        simp (config := { maxSteps := 10000000 }) only [EV1, EV2, EV3, EV4, EV5, EV6, addT, istep, lenR_sl, lenR_ns, lenR_es, pickR, putD, bin1R, un1R, slcR, bnd, capsOf, fillP, S_plain, V_plain, V.cells, S_known, V_known, C.v, blk, setL, setH, eqS, eq1, cmpS, cmp1, isNil, popTo, killT, setT, leT, V.below, C.below, S_below, R.below, V.val, C.val, S_val, R.val, R.takes, vals, shows, List.any_cons, List.any_nil, unnamed, V.kill, V.names, C.names, S_names, R.names, List.set, List.replicate, ↓q_cond_t, ↓q_cond_f, if_true, if_false, reduceCtorEq, rvals, rvC, result, C_known, V.noL, C.noL, S_noL, R.noL, Option.map, true_and, and_true, ge_iff_le, gt_iff_lt, implies_true, q_ite_t, q_ite_f, beq_iff_eq, bne_iff_ne, q_ne, Nat.reduceAdd, Nat.reducePow, Int.reducePow, Nat.reduceMul, Nat.reduceSub, Nat.reduceLeDiff, Nat.reduceLT, Nat.reduceEqDiff, Int.reduceNeg, Int.reduceLT, Int.reduceLE, Int.reduceEq, Int.reduceNe, Int.reduceAdd, Int.reduceSub, Int.reduceMul, Int.reduceToNat, Int.reduceBEq, Int.reduceBNe, hlen2, g1, g2]
        refine swp_weak (Wk.share 0 hn0 ?_ ?_ ?_ ?_ ?_ hH) fin
        · simp (config := { maxSteps := 10000000 }) only [EV1, EV2, EV3, EV4, EV5, EV6, addT, istep, lenR_sl, lenR_ns, lenR_es, pickR, putD, bin1R, un1R, slcR, bnd, capsOf, fillP, S_plain, V_plain, V.cells, S_known, V_known, C.v, blk, setL, setH, eqS, eq1, cmpS, cmp1, isNil, popTo, killT, setT, leT, V.below, C.below, S_below, R.below, V.val, C.val, S_val, R.val, R.takes, vals, shows, List.any_cons, List.any_nil, unnamed, V.kill, V.names, C.names, S_names, R.names, List.set, List.replicate, ↓q_cond_t, ↓q_cond_f, if_true, if_false, reduceCtorEq, rvals, rvC, result, C_known, V.noL, C.noL, S_noL, R.noL, Option.map, true_and, and_true, ge_iff_le, gt_iff_lt, implies_true, q_ite_t, q_ite_f, beq_iff_eq, bne_iff_ne, q_ne, Nat.reduceAdd, Nat.reducePow, Int.reducePow, Nat.reduceMul, Nat.reduceSub, Nat.reduceLeDiff, Nat.reduceLT, Nat.reduceEqDiff, Int.reduceNeg, Int.reduceLT, Int.reduceLE, Int.reduceEq, Int.reduceNe, Int.reduceAdd, Int.reduceSub, Int.reduceMul, Int.reduceToNat, Int.reduceBEq, Int.reduceBNe, List.map_cons, List.map_nil, Blk.ren, lay_ren, List.drop_zero]
        · simp (config := { maxSteps := 10000000 }) only [EV1, EV2, EV3, EV4, EV5, EV6, addT, istep, lenR_sl, lenR_ns, lenR_es, pickR, putD, bin1R, un1R, slcR, bnd, capsOf, fillP, S_plain, V_plain, V.cells, S_known, V_known, C.v, blk, setL, setH, eqS, eq1, cmpS, cmp1, isNil, popTo, killT, setT, leT, V.below, C.below, S_below, R.below, V.val, C.val, S_val, R.val, R.takes, vals, shows, List.any_cons, List.any_nil, unnamed, V.kill, V.names, C.names, S_names, R.names, List.set, List.replicate, ↓q_cond_t, ↓q_cond_f, if_true, if_false, reduceCtorEq, rvals, rvC, result, C_known, V.noL, C.noL, S_noL, R.noL, Option.map, true_and, and_true, ge_iff_le, gt_iff_lt, implies_true, q_ite_t, q_ite_f, beq_iff_eq, bne_iff_ne, q_ne, Nat.reduceAdd, Nat.reducePow, Int.reducePow, Nat.reduceMul, Nat.reduceSub, Nat.reduceLeDiff, Nat.reduceLT, Nat.reduceEqDiff, Int.reduceNeg, Int.reduceLT, Int.reduceLE, Int.reduceEq, Int.reduceNe, Int.reduceAdd, Int.reduceSub, Int.reduceMul, Int.reduceToNat, Int.reduceBEq, Int.reduceBNe, List.drop_zero]
        · simp (config := { maxSteps := 10000000 }) only [EV1, EV2, EV3, EV4, EV5, EV6, addT, istep, lenR_sl, lenR_ns, lenR_es, pickR, putD, bin1R, un1R, slcR, bnd, capsOf, fillP, S_plain, V_plain, V.cells, S_known, V_known, C.v, blk, setL, setH, eqS, eq1, cmpS, cmp1, isNil, popTo, killT, setT, leT, V.below, C.below, S_below, R.below, V.val, C.val, S_val, R.val, R.takes, vals, shows, List.any_cons, List.any_nil, unnamed, V.kill, V.names, C.names, S_names, R.names, List.set, List.replicate, ↓q_cond_t, ↓q_cond_f, if_true, if_false, reduceCtorEq, rvals, rvC, result, C_known, V.noL, C.noL, S_noL, R.noL, Option.map, true_and, and_true, ge_iff_le, gt_iff_lt, implies_true, q_ite_t, q_ite_f, beq_iff_eq, bne_iff_ne, q_ne, Nat.reduceAdd, Nat.reducePow, Int.reducePow, Nat.reduceMul, Nat.reduceSub, Nat.reduceLeDiff, Nat.reduceLT, Nat.reduceEqDiff, Int.reduceNeg, Int.reduceLT, Int.reduceLE, Int.reduceEq, Int.reduceNe, Int.reduceAdd, Int.reduceSub, Int.reduceMul, Int.reduceToNat, Int.reduceBEq, Int.reduceBNe, localT, setT, List.map_cons, List.map_nil, V.ren, S_ren, hqu, hpl, R.unl_0, hnm1]
        · simp (config := { maxSteps := 10000000 }) only [EV1, EV2, EV3, EV4, EV5, EV6, addT, istep, lenR_sl, lenR_ns, lenR_es, pickR, putD, bin1R, un1R, slcR, bnd, capsOf, fillP, S_plain, V_plain, V.cells, S_known, V_known, C.v, blk, setL, setH, eqS, eq1, cmpS, cmp1, isNil, popTo, killT, setT, leT, V.below, C.below, S_below, R.below, V.val, C.val, S_val, R.val, R.takes, vals, shows, List.any_cons, List.any_nil, unnamed, V.kill, V.names, C.names, S_names, R.names, List.set, List.replicate, ↓q_cond_t, ↓q_cond_f, if_true, if_false, reduceCtorEq, rvals, rvC, result, C_known, V.noL, C.noL, S_noL, R.noL, Option.map, true_and, and_true, ge_iff_le, gt_iff_lt, implies_true, q_ite_t, q_ite_f, beq_iff_eq, bne_iff_ne, q_ne, Nat.reduceAdd, Nat.reducePow, Int.reducePow, Nat.reduceMul, Nat.reduceSub, Nat.reduceLeDiff, Nat.reduceLT, Nat.reduceEqDiff, Int.reduceNeg, Int.reduceLT, Int.reduceLE, Int.reduceEq, Int.reduceNe, Int.reduceAdd, Int.reduceSub, Int.reduceMul, Int.reduceToNat, Int.reduceBEq, Int.reduceBNe, localT, setT, hvs1, hqv, hh1]
        · simp only [clean_cons, clean_nil, lay_vals, Bool.and_true]
      · refine run_sound (Tab.ok_Γ _) 200 _ _ _ _ ?_
        simp (config := { maxSteps := 10000000 }) only [EV1, EV2, EV3, EV4, EV5, EV6, addT, istep, lenR_sl, lenR_ns, lenR_es, pickR, putD, bin1R, un1R, slcR, bnd, capsOf, fillP, S_plain, V_plain, V.cells, S_known, V_known, C.v, blk, setL, setH, eqS, eq1, cmpS, cmp1, isNil, popTo, killT, setT, leT, V.below, C.below, S_below, R.below, V.val, C.val, S_val, R.val, R.takes, vals, shows, List.any_cons, List.any_nil, unnamed, V.kill, V.names, C.names, S_names, R.names, List.set, List.replicate, ↓q_cond_t, ↓q_cond_f, if_true, if_false, reduceCtorEq, rvals, rvC, result, C_known, V.noL, C.noL, S_noL, R.noL, Option.map, true_and, and_true, ge_iff_le, gt_iff_lt, implies_true, q_ite_t, q_ite_f, beq_iff_eq, bne_iff_ne, q_ne, Nat.reduceAdd, Nat.reducePow, Int.reducePow, Nat.reduceMul, Nat.reduceSub, Nat.reduceLeDiff, Nat.reduceLT, Nat.reduceEqDiff, Int.reduceNeg, Int.reduceLT, Int.reduceLE, Int.reduceEq, Int.reduceNe, Int.reduceAdd, Int.reduceSub, Int.reduceMul, Int.reduceToNat, Int.reduceBEq, Int.reduceBNe, hlen2, g1]
        refine swp_weak (Wk.share 0 hn0 ?_ ?_ ?_ ?_ ?_ hH) fin
        · simp (config := { maxSteps := 10000000 }) only [EV1, EV2, EV3, EV4, EV5, EV6, addT, istep, lenR_sl, lenR_ns, lenR_es, pickR, putD, bin1R, un1R, slcR, bnd, capsOf, fillP, S_plain, V_plain, V.cells, S_known, V_known, C.v, blk, setL, setH, eqS, eq1, cmpS, cmp1, isNil, popTo, killT, setT, leT, V.below, C.below, S_below, R.below, V.val, C.val, S_val, R.val, R.takes, vals, shows, List.any_cons, List.any_nil, unnamed, V.kill, V.names, C.names, S_names, R.names, List.set, List.replicate, ↓q_cond_t, ↓q_cond_f, if_true, if_false, reduceCtorEq, rvals, rvC, result, C_known, V.noL, C.noL, S_noL, R.noL, Option.map, true_and, and_true, ge_iff_le, gt_iff_lt, implies_true, q_ite_t, q_ite_f, beq_iff_eq, bne_iff_ne, q_ne, Nat.reduceAdd, Nat.reducePow, Int.reducePow, Nat.reduceMul, Nat.reduceSub, Nat.reduceLeDiff, Nat.reduceLT, Nat.reduceEqDiff, Int.reduceNeg, Int.reduceLT, Int.reduceLE, Int.reduceEq, Int.reduceNe, Int.reduceAdd, Int.reduceSub, Int.reduceMul, Int.reduceToNat, Int.reduceBEq, Int.reduceBNe, List.map_cons, List.map_nil, Blk.ren, lay_ren, List.drop_zero]
        · simp (config := { maxSteps := 10000000 }) only [EV1, EV2, EV3, EV4, EV5, EV6, addT, istep, lenR_sl, lenR_ns, lenR_es, pickR, putD, bin1R, un1R, slcR, bnd, capsOf, fillP, S_plain, V_plain, V.cells, S_known, V_known, C.v, blk, setL, setH, eqS, eq1, cmpS, cmp1, isNil, popTo, killT, setT, leT, V.below, C.below, S_below, R.below, V.val, C.val, S_val, R.val, R.takes, vals, shows, List.any_cons, List.any_nil, unnamed, V.kill, V.names, C.names, S_names, R.names, List.set, List.replicate, ↓q_cond_t, ↓q_cond_f, if_true, if_false, reduceCtorEq, rvals, rvC, result, C_known, V.noL, C.noL, S_noL, R.noL, Option.map, true_and, and_true, ge_iff_le, gt_iff_lt, implies_true, q_ite_t, q_ite_f, beq_iff_eq, bne_iff_ne, q_ne, Nat.reduceAdd, Nat.reducePow, Int.reducePow, Nat.reduceMul, Nat.reduceSub, Nat.reduceLeDiff, Nat.reduceLT, Nat.reduceEqDiff, Int.reduceNeg, Int.reduceLT, Int.reduceLE, Int.reduceEq, Int.reduceNe, Int.reduceAdd, Int.reduceSub, Int.reduceMul, Int.reduceToNat, Int.reduceBEq, Int.reduceBNe, List.drop_zero]
        · simp (config := { maxSteps := 10000000 }) only [EV1, EV2, EV3, EV4, EV5, EV6, addT, istep, lenR_sl, lenR_ns, lenR_es, pickR, putD, bin1R, un1R, slcR, bnd, capsOf, fillP, S_plain, V_plain, V.cells, S_known, V_known, C.v, blk, setL, setH, eqS, eq1, cmpS, cmp1, isNil, popTo, killT, setT, leT, V.below, C.below, S_below, R.below, V.val, C.val, S_val, R.val, R.takes, vals, shows, List.any_cons, List.any_nil, unnamed, V.kill, V.names, C.names, S_names, R.names, List.set, List.replicate, ↓q_cond_t, ↓q_cond_f, if_true, if_false, reduceCtorEq, rvals, rvC, result, C_known, V.noL, C.noL, S_noL, R.noL, Option.map, true_and, and_true, ge_iff_le, gt_iff_lt, implies_true, q_ite_t, q_ite_f, beq_iff_eq, bne_iff_ne, q_ne, Nat.reduceAdd, Nat.reducePow, Int.reducePow, Nat.reduceMul, Nat.reduceSub, Nat.reduceLeDiff, Nat.reduceLT, Nat.reduceEqDiff, Int.reduceNeg, Int.reduceLT, Int.reduceLE, Int.reduceEq, Int.reduceNe, Int.reduceAdd, Int.reduceSub, Int.reduceMul, Int.reduceToNat, Int.reduceBEq, Int.reduceBNe, localT, setT, List.map_cons, List.map_nil, V.ren, S_ren, hqu, hpl, R.unl_0, hnm1]
        · simp (config := { maxSteps := 10000000 }) only [EV1, EV2, EV3, EV4, EV5, EV6, addT, istep, lenR_sl, lenR_ns, lenR_es, pickR, putD, bin1R, un1R, slcR, bnd, capsOf, fillP, S_plain, V_plain, V.cells, S_known, V_known, C.v, blk, setL, setH, eqS, eq1, cmpS, cmp1, isNil, popTo, killT, setT, leT, V.below, C.below, S_below, R.below, V.val, C.val, S_val, R.val, R.takes, vals, shows, List.any_cons, List.any_nil, unnamed, V.kill, V.names, C.names, S_names, R.names, List.set, List.replicate, ↓q_cond_t, ↓q_cond_f, if_true, if_false, reduceCtorEq, rvals, rvC, result, C_known, V.noL, C.noL, S_noL, R.noL, Option.map, true_and, and_true, ge_iff_le, gt_iff_lt, implies_true, q_ite_t, q_ite_f, beq_iff_eq, bne_iff_ne, q_ne, Nat.reduceAdd, Nat.reducePow, Int.reducePow, Nat.reduceMul, Nat.reduceSub, Nat.reduceLeDiff, Nat.reduceLT, Nat.reduceEqDiff, Int.reduceNeg, Int.reduceLT, Int.reduceLE, Int.reduceEq, Int.reduceNe, Int.reduceAdd, Int.reduceSub, Int.reduceMul, Int.reduceToNat, Int.reduceBEq, Int.reduceBNe, localT, setT, hvs1, hqv, hh1]
        · simp only [clean_cons, clean_nil, lay_vals, Bool.and_true]
end Go.Proofs.Ytdlloccodmdnnaa

/- Law 10: CspaceLocal: the walk. (Printed by gen_PF.py.) -/
namespace Go.Proofs.Ytdlloccodmdnnaa
open Go.D
set_option linter.all false
set_option maxRecDepth 100000
set_option maxHeartbeats 8000000

def slA : List Lay → Nat → S
  | [], _ => .ns
  | _ :: M, c => .sl (.l 1) 0 (M.length + 1) c
def lsA : List Lay → Nat → List Blk
  | [], _ => []
  | x :: M, c => [⟨.rw, arr Lay.cl (x :: M), c * 12⟩]
theorem mem_low {M : List Lay} {y : Lay} (h : ∀ x, x ∈ M → x.low) (hy : y.low) : ∀ x, x ∈ M ++ [y] → x.low := fun x hx => by
  rcases List.mem_append.1 hx with h1 | h1
  · exact h x h1
  · simp only [List.mem_singleton] at h1; subst h1; exact hy
def localS : FSpec := fun args h K => ∃ s L c w d s2 M, args = [.s s, .agg (Cap.cl c), .s (.i .u64 w), .s (.i .i64 d), .s s2] ∧ IsArr Lay.cl h s L ∧ L.length ≤ 9223372036854775807 ∧ IsArr Lay.cl h s2 M ∧ M.length ≤ 9223372036854775807 ∧ u64 w ∧ ∀ h', K (.s (.b true)) h'
theorem local_snd : Snd Try.prog 3 localS := (fwp_sound (Tab.snd_Γ T10_snd) mixed Try.func3 dc3).weaken fun args h K hc hS => by
  obtain ⟨s, L, c, w, d, s2, more, rfl, H1, hl, H2, hl2, hu, hK⟩ := hS
  refine fwp_of _ (fun _ _ => finP_fin) (cut_at 4 ?_)
  have hlen := fun ls h' => H1.sl.len (ls := ls) (h := h')
  have hb1 : ∀ k, S.below k s = true := H1.sl.below
  have hb2 : ∀ k, S.below k s2 = true := H2.sl.below
  have hnm1 := fun k => H1.sl.names k
  have hnm2 := fun k => H2.sl.names k
  have hp1 := fun l => H1.sl.pick l
  have hp2 := fun l => H2.sl.pick l
  have hv1 := fun k => H1.sl.val (k := h.length) (m := k) (Nat.le_refl _)
  have hv2 := fun k => H2.sl.val (k := h.length) (m := k) (Nat.le_refl _)
  have hv3 := fun j k => H2.sl.val (k := h.length + j) (m := k) (by omega)
  have hpl : ∀ d, s2.ren (R.unl h.length d) = s2 := fun d => by
    rcases H2.sl with ⟨rfl, _⟩ | ⟨a, c, rfl, _⟩ | ⟨j, o, c, rfl, hj⟩
    · rfl
    · rfl
    · simp only [S.ren, R.unl_lt hj]
  have hcn : ∀ k, (c.cl.all fun s => !S.names k s) = true := fun _ => rfl
  have hcq := hc
  have hnq : h.length ≤ h.length := Nat.le_refl _
  simp only [Cap.cl, df3]
  refine run_sound (Tab.ok_Γ _) 200 _ _ _ _ ?_
  simp (config := { maxSteps := 10000000 }) only [EV1, EV2, EV3, EV4, EV5, EV6, addT, istep, lenR_sl, lenR_ns, lenR_es, pickR, putD, bin1R, un1R, slcR, bnd, capsOf, fillP, S_plain, V_plain, V.cells, S_known, V_known, C.v, blk, setL, setH, eqS, eq1, cmpS, cmp1, isNil, popTo, killT, setT, leT, V.below, C.below, S_below, R.below, V.val, C.val, S_val, R.val, R.takes, vals, shows, List.any_cons, List.any_nil, unnamed, V.kill, V.names, C.names, S_names, R.names, List.set, List.replicate, ↓q_cond_t, ↓q_cond_f, if_true, if_false, reduceCtorEq, rvals, rvC, result, C_known, V.noL, C.noL, S_noL, R.noL, Option.map, true_and, and_true, ge_iff_le, gt_iff_lt, implies_true, q_ite_t, q_ite_f, beq_iff_eq, bne_iff_ne, q_ne, Nat.reduceAdd, Nat.reducePow, Int.reducePow, Nat.reduceMul, Nat.reduceSub, Nat.reduceLeDiff, Nat.reduceLT, Nat.reduceEqDiff, Int.reduceNeg, Int.reduceLT, Int.reduceLE, Int.reduceEq, Int.reduceNe, Int.reduceAdd, Int.reduceSub, Int.reduceMul, Int.reduceToNat, Int.reduceBEq, Int.reduceBNe, T10, awake10G, put, fillP]
  refine loop_rule (α := Nat × List Lay × Nat) [12, 13, 14, 15, 30, 31, 32, 33, 34, 35, 36, 37, 38, 39, 40, 41, 42, 43, 44, 45, 46, 47, 48, 49, 50, 51, 52, 53, 54, 55, 56, 57, 58, 59, 60, 61, 62, 63, 64, 65, 66, 67, 68, 69, 70, 71, 72, 73, 74, 75, 76, 77, 78] (fun x => [(12, .s (slA x.2.1 x.2.2)), (13, .s (.i .i64 x.1))]) (fun x => ⟨.rw, c.cl, 11⟩ :: lsA x.2.1 x.2.2) (fun _ => h)
    (fun x => x.1 ≤ L.length ∧ x.1 ≤ 50 ∧ x.2.1.length ≤ x.1 ∧ (∀ y, y ∈ x.2.1 → y.low) ∧ x.2.1.length ≤ x.2.2) (fun x => L.length - x.1) (0, [], 0) ⟨Nat.zero_le _, Nat.zero_le _, Nat.le_refl _, (by intro y hy; simp at hy), Nat.le_refl _⟩ ?_ ?_
  · refine Wk.same rfl rfl ?_
    simp (config := { maxSteps := 10000000 }) only [EV1, EV2, EV3, EV4, EV5, EV6, addT, istep, lenR_sl, lenR_ns, lenR_es, pickR, putD, bin1R, un1R, slcR, bnd, capsOf, fillP, S_plain, V_plain, V.cells, S_known, V_known, C.v, blk, setL, setH, eqS, eq1, cmpS, cmp1, isNil, popTo, killT, setT, leT, V.below, C.below, S_below, R.below, V.val, C.val, S_val, R.val, R.takes, vals, shows, List.any_cons, List.any_nil, unnamed, V.kill, V.names, C.names, S_names, R.names, List.set, List.replicate, ↓q_cond_t, ↓q_cond_f, if_true, if_false, reduceCtorEq, rvals, rvC, result, C_known, V.noL, C.noL, S_noL, R.noL, Option.map, true_and, and_true, ge_iff_le, gt_iff_lt, implies_true, q_ite_t, q_ite_f, beq_iff_eq, bne_iff_ne, q_ne, Nat.reduceAdd, Nat.reducePow, Int.reducePow, Nat.reduceMul, Nat.reduceSub, Nat.reduceLeDiff, Nat.reduceLT, Nat.reduceEqDiff, Int.reduceNeg, Int.reduceLT, Int.reduceLE, Int.reduceEq, Int.reduceNe, Int.reduceAdd, Int.reduceSub, Int.reduceMul, Int.reduceToNat, Int.reduceBEq, Int.reduceBNe, slA, Int.natCast_zero]
  · rintro X ⟨i, M, cp⟩ ⟨hi, hi2, hM, hM2, hcp⟩ IH
    simp only at hi hi2 hM hM2 hcp IH ⊢
    by_cases hx : i < L.length ∧ i < 50
    · obtain ⟨g1, g50⟩ := hx
      obtain ⟨d1, d2, d3, d4⟩ := idx g1 hl
      have d5 : (i : Int) < 50 := by omega
      obtain ⟨j, c', st, room, hse, hj, hd⟩ := H1.at g1
      obtain ⟨y, hy⟩ : ∃ y, nth layZ L i = y := ⟨_, rfl⟩
      have hs : sub (arr Lay.cl L) (i * 12) 12 = y.cl := by rw [← hy, nth_eq g1]; exact arr_sub Lay.cl_len g1
      have hle : i * 12 + 12 ≤ (arr Lay.cl L).length := by
        rw [lay_len]
        have : (i + 1) * 12 ≤ L.length * 12 := Nat.mul_le_mul_right _ g1
        omega
      simp only [Lay.cl, Cap.cl] at hs
      have hjl : j < h.length := (List.getElem?_eq_some_iff.1 hj).1
      have z2 : L.length - (i + 1) < L.length - i := by omega
      cases M with
      | nil =>
        cases hr : rightB y.cap with
        | false =>
          refine run_sound (Tab.ok_Γ _) 300 _ _ _ _ ?_
          simp (config := { maxSteps := 10000000 }) only [EV1, EV2, EV3, EV4, EV5, EV6, addT, istep, lenR_sl, lenR_ns, lenR_es, pickR, putD, bin1R, un1R, slcR, bnd, capsOf, fillP, S_plain, V_plain, V.cells, S_known, V_known, C.v, blk, setL, setH, eqS, eq1, cmpS, cmp1, isNil, popTo, killT, setT, leT, V.below, C.below, S_below, R.below, V.val, C.val, S_val, R.val, R.takes, vals, shows, List.any_cons, List.any_nil, unnamed, V.kill, V.names, C.names, S_names, R.names, List.set, List.replicate, ↓q_cond_t, ↓q_cond_f, if_true, if_false, reduceCtorEq, rvals, rvC, result, C_known, V.noL, C.noL, S_noL, R.noL, Option.map, true_and, and_true, ge_iff_le, gt_iff_lt, implies_true, q_ite_t, q_ite_f, beq_iff_eq, bne_iff_ne, q_ne, Nat.reduceAdd, Nat.reducePow, Int.reducePow, Nat.reduceMul, Nat.reduceSub, Nat.reduceLeDiff, Nat.reduceLT, Nat.reduceEqDiff, Int.reduceNeg, Int.reduceLT, Int.reduceLE, Int.reduceEq, Int.reduceNe, Int.reduceAdd, Int.reduceSub, Int.reduceMul, Int.reduceToNat, Int.reduceBEq, Int.reduceBNe, T10, hse, d1, d2, d3, d4, d5, hj, hd, hs, hle, rightG, capF, cap_eta, slA, lsA, Int.toNat_natCast, put, fillP, hr]
          refine IH (i + 1, [], cp) _ z2 ⟨g1, g50, by show ([]).length ≤ i + 1; omega, hM2, hcp⟩ ?_
          refine Wk.keep 1 ?_ rfl ?_ ?_ ?_
          all_goals simp (config := { maxSteps := 10000000 }) only [EV1, EV2, EV3, EV4, EV5, EV6, addT, istep, lenR_sl, lenR_ns, lenR_es, pickR, putD, bin1R, un1R, slcR, bnd, capsOf, fillP, S_plain, V_plain, V.cells, S_known, V_known, C.v, blk, setL, setH, eqS, eq1, cmpS, cmp1, isNil, popTo, killT, setT, leT, V.below, C.below, S_below, R.below, V.val, C.val, S_val, R.val, R.takes, vals, shows, List.any_cons, List.any_nil, unnamed, V.kill, V.names, C.names, S_names, R.names, List.set, List.replicate, ↓q_cond_t, ↓q_cond_f, if_true, if_false, reduceCtorEq, rvals, rvC, result, C_known, V.noL, C.noL, S_noL, R.noL, Option.map, true_and, and_true, ge_iff_le, gt_iff_lt, implies_true, q_ite_t, q_ite_f, beq_iff_eq, bne_iff_ne, q_ne, Nat.reduceAdd, Nat.reducePow, Int.reducePow, Nat.reduceMul, Nat.reduceSub, Nat.reduceLeDiff, Nat.reduceLT, Nat.reduceEqDiff, Int.reduceNeg, Int.reduceLT, Int.reduceLE, Int.reduceEq, Int.reduceNe, Int.reduceAdd, Int.reduceSub, Int.reduceMul, Int.reduceToNat, Int.reduceBEq, Int.reduceBNe, hse, slA, lsA, hb1, hb2, lay_below, List.take_succ_cons, List.take_zero, Cap.cl]
        | true =>
        have hb := right_bounds hr
        by_cases c2 : 0 ≤ y.at_
        case neg =>
          refine run_sound (Tab.ok_Γ _) 300 _ _ _ _ ?_
          simp (config := { maxSteps := 10000000 }) only [EV1, EV2, EV3, EV4, EV5, EV6, addT, istep, lenR_sl, lenR_ns, lenR_es, pickR, putD, bin1R, un1R, slcR, bnd, capsOf, fillP, S_plain, V_plain, V.cells, S_known, V_known, C.v, blk, setL, setH, eqS, eq1, cmpS, cmp1, isNil, popTo, killT, setT, leT, V.below, C.below, S_below, R.below, V.val, C.val, S_val, R.val, R.takes, vals, shows, List.any_cons, List.any_nil, unnamed, V.kill, V.names, C.names, S_names, R.names, List.set, List.replicate, ↓q_cond_t, ↓q_cond_f, if_true, if_false, reduceCtorEq, rvals, rvC, result, C_known, V.noL, C.noL, S_noL, R.noL, Option.map, true_and, and_true, ge_iff_le, gt_iff_lt, implies_true, q_ite_t, q_ite_f, beq_iff_eq, bne_iff_ne, q_ne, Nat.reduceAdd, Nat.reducePow, Int.reducePow, Nat.reduceMul, Nat.reduceSub, Nat.reduceLeDiff, Nat.reduceLT, Nat.reduceEqDiff, Int.reduceNeg, Int.reduceLT, Int.reduceLE, Int.reduceEq, Int.reduceNe, Int.reduceAdd, Int.reduceSub, Int.reduceMul, Int.reduceToNat, Int.reduceBEq, Int.reduceBNe, T10, hse, d1, d2, d3, d4, d5, hj, hd, hs, hle, rightG, capF, cap_eta, slA, lsA, Int.toNat_natCast, put, fillP, hr, c2]
          refine IH (i + 1, [], cp) _ z2 ⟨g1, g50, by show ([]).length ≤ i + 1; omega, hM2, hcp⟩ ?_
          refine Wk.keep 1 ?_ rfl ?_ ?_ ?_
          all_goals simp (config := { maxSteps := 10000000 }) only [EV1, EV2, EV3, EV4, EV5, EV6, addT, istep, lenR_sl, lenR_ns, lenR_es, pickR, putD, bin1R, un1R, slcR, bnd, capsOf, fillP, S_plain, V_plain, V.cells, S_known, V_known, C.v, blk, setL, setH, eqS, eq1, cmpS, cmp1, isNil, popTo, killT, setT, leT, V.below, C.below, S_below, R.below, V.val, C.val, S_val, R.val, R.takes, vals, shows, List.any_cons, List.any_nil, unnamed, V.kill, V.names, C.names, S_names, R.names, List.set, List.replicate, ↓q_cond_t, ↓q_cond_f, if_true, if_false, reduceCtorEq, rvals, rvC, result, C_known, V.noL, C.noL, S_noL, R.noL, Option.map, true_and, and_true, ge_iff_le, gt_iff_lt, implies_true, q_ite_t, q_ite_f, beq_iff_eq, bne_iff_ne, q_ne, Nat.reduceAdd, Nat.reducePow, Int.reducePow, Nat.reduceMul, Nat.reduceSub, Nat.reduceLeDiff, Nat.reduceLT, Nat.reduceEqDiff, Int.reduceNeg, Int.reduceLT, Int.reduceLE, Int.reduceEq, Int.reduceNe, Int.reduceAdd, Int.reduceSub, Int.reduceMul, Int.reduceToNat, Int.reduceBEq, Int.reduceBNe, hse, slA, lsA, hb1, hb2, lay_below, List.take_succ_cons, List.take_zero, Cap.cl]
        by_cases c3 : y.at_ < 2048
        case neg =>
          refine run_sound (Tab.ok_Γ _) 300 _ _ _ _ ?_
          simp (config := { maxSteps := 10000000 }) only [EV1, EV2, EV3, EV4, EV5, EV6, addT, istep, lenR_sl, lenR_ns, lenR_es, pickR, putD, bin1R, un1R, slcR, bnd, capsOf, fillP, S_plain, V_plain, V.cells, S_known, V_known, C.v, blk, setL, setH, eqS, eq1, cmpS, cmp1, isNil, popTo, killT, setT, leT, V.below, C.below, S_below, R.below, V.val, C.val, S_val, R.val, R.takes, vals, shows, List.any_cons, List.any_nil, unnamed, V.kill, V.names, C.names, S_names, R.names, List.set, List.replicate, ↓q_cond_t, ↓q_cond_f, if_true, if_false, reduceCtorEq, rvals, rvC, result, C_known, V.noL, C.noL, S_noL, R.noL, Option.map, true_and, and_true, ge_iff_le, gt_iff_lt, implies_true, q_ite_t, q_ite_f, beq_iff_eq, bne_iff_ne, q_ne, Nat.reduceAdd, Nat.reducePow, Int.reducePow, Nat.reduceMul, Nat.reduceSub, Nat.reduceLeDiff, Nat.reduceLT, Nat.reduceEqDiff, Int.reduceNeg, Int.reduceLT, Int.reduceLE, Int.reduceEq, Int.reduceNe, Int.reduceAdd, Int.reduceSub, Int.reduceMul, Int.reduceToNat, Int.reduceBEq, Int.reduceBNe, T10, hse, d1, d2, d3, d4, d5, hj, hd, hs, hle, rightG, capF, cap_eta, slA, lsA, Int.toNat_natCast, put, fillP, hr, c2, c3]
          refine IH (i + 1, [], cp) _ z2 ⟨g1, g50, by show ([]).length ≤ i + 1; omega, hM2, hcp⟩ ?_
          refine Wk.keep 1 ?_ rfl ?_ ?_ ?_
          all_goals simp (config := { maxSteps := 10000000 }) only [EV1, EV2, EV3, EV4, EV5, EV6, addT, istep, lenR_sl, lenR_ns, lenR_es, pickR, putD, bin1R, un1R, slcR, bnd, capsOf, fillP, S_plain, V_plain, V.cells, S_known, V_known, C.v, blk, setL, setH, eqS, eq1, cmpS, cmp1, isNil, popTo, killT, setT, leT, V.below, C.below, S_below, R.below, V.val, C.val, S_val, R.val, R.takes, vals, shows, List.any_cons, List.any_nil, unnamed, V.kill, V.names, C.names, S_names, R.names, List.set, List.replicate, ↓q_cond_t, ↓q_cond_f, if_true, if_false, reduceCtorEq, rvals, rvC, result, C_known, V.noL, C.noL, S_noL, R.noL, Option.map, true_and, and_true, ge_iff_le, gt_iff_lt, implies_true, q_ite_t, q_ite_f, beq_iff_eq, bne_iff_ne, q_ne, Nat.reduceAdd, Nat.reducePow, Int.reducePow, Nat.reduceMul, Nat.reduceSub, Nat.reduceLeDiff, Nat.reduceLT, Nat.reduceEqDiff, Int.reduceNeg, Int.reduceLT, Int.reduceLE, Int.reduceEq, Int.reduceNe, Int.reduceAdd, Int.reduceSub, Int.reduceMul, Int.reduceToNat, Int.reduceBEq, Int.reduceBNe, hse, slA, lsA, hb1, hb2, lay_below, List.take_succ_cons, List.take_zero, Cap.cl]
        by_cases ht : y.cap.ty = 2
        case neg =>
          have ht' : (y.cap.ty != 2) = true := by simpa using ht
          have hyl : y.low := ⟨hr, c2, c3, fun e => absurd e ht⟩
          refine run_sound (Tab.ok_Γ _) 300 _ _ _ _ ?_
          simp (config := { maxSteps := 10000000 }) only [EV1, EV2, EV3, EV4, EV5, EV6, addT, istep, lenR_sl, lenR_ns, lenR_es, pickR, putD, bin1R, un1R, slcR, bnd, capsOf, fillP, S_plain, V_plain, V.cells, S_known, V_known, C.v, blk, setL, setH, eqS, eq1, cmpS, cmp1, isNil, popTo, killT, setT, leT, V.below, C.below, S_below, R.below, V.val, C.val, S_val, R.val, R.takes, vals, shows, List.any_cons, List.any_nil, unnamed, V.kill, V.names, C.names, S_names, R.names, List.set, List.replicate, ↓q_cond_t, ↓q_cond_f, if_true, if_false, reduceCtorEq, rvals, rvC, result, C_known, V.noL, C.noL, S_noL, R.noL, Option.map, true_and, and_true, ge_iff_le, gt_iff_lt, implies_true, q_ite_t, q_ite_f, beq_iff_eq, bne_iff_ne, q_ne, Nat.reduceAdd, Nat.reducePow, Int.reducePow, Nat.reduceMul, Nat.reduceSub, Nat.reduceLeDiff, Nat.reduceLT, Nat.reduceEqDiff, Int.reduceNeg, Int.reduceLT, Int.reduceLE, Int.reduceEq, Int.reduceNe, Int.reduceAdd, Int.reduceSub, Int.reduceMul, Int.reduceToNat, Int.reduceBEq, Int.reduceBNe, T10, hse, d1, d2, d3, d4, d5, hj, hd, hs, hle, rightG, capF, cap_eta, slA, lsA, Int.toNat_natCast, put, fillP, hr, c2, c3, ht']
          intro c3 hc3
          have hlow := mem_low (M := []) (y := y) hM2 hyl
          refine IH (i + 1, [y], c3) _ z2 ⟨g1, g50, by show 1 ≤ i + 1; omega, hlow, hc3⟩ ?_
          simp only
          refine Wk.sel [0, 3] (by decide) hnq ?_ ?_ ?_ ?_ hcq (clean_pick hcq _)
          · simp (config := { maxSteps := 10000000 }) only [EV1, EV2, EV3, EV4, EV5, EV6, addT, istep, lenR_sl, lenR_ns, lenR_es, pickR, putD, bin1R, un1R, slcR, bnd, capsOf, fillP, S_plain, V_plain, V.cells, S_known, V_known, C.v, blk, setL, setH, eqS, eq1, cmpS, cmp1, isNil, popTo, killT, setT, leT, V.below, C.below, S_below, R.below, V.val, C.val, S_val, R.val, R.takes, vals, shows, List.any_cons, List.any_nil, unnamed, V.kill, V.names, C.names, S_names, R.names, List.set, List.replicate, ↓q_cond_t, ↓q_cond_f, if_true, if_false, reduceCtorEq, rvals, rvC, result, C_known, V.noL, C.noL, S_noL, R.noL, Option.map, true_and, and_true, ge_iff_le, gt_iff_lt, implies_true, q_ite_t, q_ite_f, beq_iff_eq, bne_iff_ne, q_ne, Nat.reduceAdd, Nat.reducePow, Int.reducePow, Nat.reduceMul, Nat.reduceSub, Nat.reduceLeDiff, Nat.reduceLT, Nat.reduceEqDiff, Int.reduceNeg, Int.reduceLT, Int.reduceLE, Int.reduceEq, Int.reduceNe, Int.reduceAdd, Int.reduceSub, Int.reduceMul, Int.reduceToNat, Int.reduceBEq, Int.reduceBNe, List.nil_append, Blk.ren, V.ren, C.ren, S_ren, wc_ren, R.pick_g, R.pick_0, R.pick_s, List.map_append, wc_cons, wc_snoc, wc_nil, slA, lsA, hjl, hse, hp2, hv2, Cap.cl, lay_ren, lay_valall, arr, Lay.cl, Cap.cl]
          · simp (config := { maxSteps := 10000000 }) only [EV1, EV2, EV3, EV4, EV5, EV6, addT, istep, lenR_sl, lenR_ns, lenR_es, pickR, putD, bin1R, un1R, slcR, bnd, capsOf, fillP, S_plain, V_plain, V.cells, S_known, V_known, C.v, blk, setL, setH, eqS, eq1, cmpS, cmp1, isNil, popTo, killT, setT, leT, V.below, C.below, S_below, R.below, V.val, C.val, S_val, R.val, R.takes, vals, shows, List.any_cons, List.any_nil, unnamed, V.kill, V.names, C.names, S_names, R.names, List.set, List.replicate, ↓q_cond_t, ↓q_cond_f, if_true, if_false, reduceCtorEq, rvals, rvC, result, C_known, V.noL, C.noL, S_noL, R.noL, Option.map, true_and, and_true, ge_iff_le, gt_iff_lt, implies_true, q_ite_t, q_ite_f, beq_iff_eq, bne_iff_ne, q_ne, Nat.reduceAdd, Nat.reducePow, Int.reducePow, Nat.reduceMul, Nat.reduceSub, Nat.reduceLeDiff, Nat.reduceLT, Nat.reduceEqDiff, Int.reduceNeg, Int.reduceLT, Int.reduceLE, Int.reduceEq, Int.reduceNe, Int.reduceAdd, Int.reduceSub, Int.reduceMul, Int.reduceToNat, Int.reduceBEq, Int.reduceBNe, List.nil_append, Blk.ren, V.ren, C.ren, S_ren, wc_ren, R.pick_g, R.pick_0, R.pick_s, slA, lsA, hjl, hse, hp2, hv2, Cap.cl, lay_ren, lay_valall, arr, Lay.cl, Cap.cl]
          · simp (config := { maxSteps := 10000000 }) only [EV1, EV2, EV3, EV4, EV5, EV6, addT, istep, lenR_sl, lenR_ns, lenR_es, pickR, putD, bin1R, un1R, slcR, bnd, capsOf, fillP, S_plain, V_plain, V.cells, S_known, V_known, C.v, blk, setL, setH, eqS, eq1, cmpS, cmp1, isNil, popTo, killT, setT, leT, V.below, C.below, S_below, R.below, V.val, C.val, S_val, R.val, R.takes, vals, shows, List.any_cons, List.any_nil, unnamed, V.kill, V.names, C.names, S_names, R.names, List.set, List.replicate, ↓q_cond_t, ↓q_cond_f, if_true, if_false, reduceCtorEq, rvals, rvC, result, C_known, V.noL, C.noL, S_noL, R.noL, Option.map, true_and, and_true, ge_iff_le, gt_iff_lt, implies_true, q_ite_t, q_ite_f, beq_iff_eq, bne_iff_ne, q_ne, Nat.reduceAdd, Nat.reducePow, Int.reducePow, Nat.reduceMul, Nat.reduceSub, Nat.reduceLeDiff, Nat.reduceLT, Nat.reduceEqDiff, Int.reduceNeg, Int.reduceLT, Int.reduceLE, Int.reduceEq, Int.reduceNe, Int.reduceAdd, Int.reduceSub, Int.reduceMul, Int.reduceToNat, Int.reduceBEq, Int.reduceBNe, List.nil_append, app_len, nlt0, nltn, Nat.reduceLT, Nat.le_add_right, slA, lsA, hjl, hse, hp2, hv2, Cap.cl, lay_ren, lay_valall, arr, Lay.cl, Cap.cl]
          · simp (config := { maxSteps := 10000000 }) only [EV1, EV2, EV3, EV4, EV5, EV6, addT, istep, lenR_sl, lenR_ns, lenR_es, pickR, putD, bin1R, un1R, slcR, bnd, capsOf, fillP, S_plain, V_plain, V.cells, S_known, V_known, C.v, blk, setL, setH, eqS, eq1, cmpS, cmp1, isNil, popTo, killT, setT, leT, V.below, C.below, S_below, R.below, V.val, C.val, S_val, R.val, R.takes, vals, shows, List.any_cons, List.any_nil, unnamed, V.kill, V.names, C.names, S_names, R.names, List.set, List.replicate, ↓q_cond_t, ↓q_cond_f, if_true, if_false, reduceCtorEq, rvals, rvC, result, C_known, V.noL, C.noL, S_noL, R.noL, Option.map, true_and, and_true, ge_iff_le, gt_iff_lt, implies_true, q_ite_t, q_ite_f, beq_iff_eq, bne_iff_ne, q_ne, Nat.reduceAdd, Nat.reducePow, Int.reducePow, Nat.reduceMul, Nat.reduceSub, Nat.reduceLeDiff, Nat.reduceLT, Nat.reduceEqDiff, Int.reduceNeg, Int.reduceLT, Int.reduceLE, Int.reduceEq, Int.reduceNe, Int.reduceAdd, Int.reduceSub, Int.reduceMul, Int.reduceToNat, Int.reduceBEq, Int.reduceBNe, List.nil_append, app_len, nlt0, nltn, Nat.reduceLT, Nat.le_add_right, vals_cons, vals_nil, wc_val, wc_vals, slA, lsA, hjl, hse, hp2, hv2, Cap.cl, lay_ren, lay_valall, arr, Lay.cl, Cap.cl]
        have ht' : (y.cap.ty != 2) = false := by simpa using ht
        obtain ⟨v1, v2⟩ := ends_wrap hb.bits hb.obj
        have b0 := hb.bits.1
        by_cases he : y.cap.ends ≤ 2048
        case neg =>
          refine run_sound (Tab.ok_Γ _) 300 _ _ _ _ ?_
          simp (config := { maxSteps := 10000000 }) only [EV1, EV2, EV3, EV4, EV5, EV6, addT, istep, lenR_sl, lenR_ns, lenR_es, pickR, putD, bin1R, un1R, slcR, bnd, capsOf, fillP, S_plain, V_plain, V.cells, S_known, V_known, C.v, blk, setL, setH, eqS, eq1, cmpS, cmp1, isNil, popTo, killT, setT, leT, V.below, C.below, S_below, R.below, V.val, C.val, S_val, R.val, R.takes, vals, shows, List.any_cons, List.any_nil, unnamed, V.kill, V.names, C.names, S_names, R.names, List.set, List.replicate, ↓q_cond_t, ↓q_cond_f, if_true, if_false, reduceCtorEq, rvals, rvC, result, C_known, V.noL, C.noL, S_noL, R.noL, Option.map, true_and, and_true, ge_iff_le, gt_iff_lt, implies_true, q_ite_t, q_ite_f, beq_iff_eq, bne_iff_ne, q_ne, Nat.reduceAdd, Nat.reducePow, Int.reducePow, Nat.reduceMul, Nat.reduceSub, Nat.reduceLeDiff, Nat.reduceLT, Nat.reduceEqDiff, Int.reduceNeg, Int.reduceLT, Int.reduceLE, Int.reduceEq, Int.reduceNe, Int.reduceAdd, Int.reduceSub, Int.reduceMul, Int.reduceToNat, Int.reduceBEq, Int.reduceBNe, T10, hse, d1, d2, d3, d4, d5, hj, hd, hs, hle, rightG, capF, cap_eta, slA, lsA, Int.toNat_natCast, put, fillP, hr, c2, c3, ht', b0, v1, v2, he]
          refine IH (i + 1, [], cp) _ z2 ⟨g1, g50, by show ([]).length ≤ i + 1; omega, hM2, hcp⟩ ?_
          refine Wk.keep 1 ?_ rfl ?_ ?_ ?_
          all_goals simp (config := { maxSteps := 10000000 }) only [EV1, EV2, EV3, EV4, EV5, EV6, addT, istep, lenR_sl, lenR_ns, lenR_es, pickR, putD, bin1R, un1R, slcR, bnd, capsOf, fillP, S_plain, V_plain, V.cells, S_known, V_known, C.v, blk, setL, setH, eqS, eq1, cmpS, cmp1, isNil, popTo, killT, setT, leT, V.below, C.below, S_below, R.below, V.val, C.val, S_val, R.val, R.takes, vals, shows, List.any_cons, List.any_nil, unnamed, V.kill, V.names, C.names, S_names, R.names, List.set, List.replicate, ↓q_cond_t, ↓q_cond_f, if_true, if_false, reduceCtorEq, rvals, rvC, result, C_known, V.noL, C.noL, S_noL, R.noL, Option.map, true_and, and_true, ge_iff_le, gt_iff_lt, implies_true, q_ite_t, q_ite_f, beq_iff_eq, bne_iff_ne, q_ne, Nat.reduceAdd, Nat.reducePow, Int.reducePow, Nat.reduceMul, Nat.reduceSub, Nat.reduceLeDiff, Nat.reduceLT, Nat.reduceEqDiff, Int.reduceNeg, Int.reduceLT, Int.reduceLE, Int.reduceEq, Int.reduceNe, Int.reduceAdd, Int.reduceSub, Int.reduceMul, Int.reduceToNat, Int.reduceBEq, Int.reduceBNe, hse, slA, lsA, hb1, hb2, lay_below, List.take_succ_cons, List.take_zero, Cap.cl]
        have hyl : y.low := ⟨hr, c2, c3, fun _ => he⟩
        refine run_sound (Tab.ok_Γ _) 300 _ _ _ _ ?_
        simp (config := { maxSteps := 10000000 }) only [EV1, EV2, EV3, EV4, EV5, EV6, addT, istep, lenR_sl, lenR_ns, lenR_es, pickR, putD, bin1R, un1R, slcR, bnd, capsOf, fillP, S_plain, V_plain, V.cells, S_known, V_known, C.v, blk, setL, setH, eqS, eq1, cmpS, cmp1, isNil, popTo, killT, setT, leT, V.below, C.below, S_below, R.below, V.val, C.val, S_val, R.val, R.takes, vals, shows, List.any_cons, List.any_nil, unnamed, V.kill, V.names, C.names, S_names, R.names, List.set, List.replicate, ↓q_cond_t, ↓q_cond_f, if_true, if_false, reduceCtorEq, rvals, rvC, result, C_known, V.noL, C.noL, S_noL, R.noL, Option.map, true_and, and_true, ge_iff_le, gt_iff_lt, implies_true, q_ite_t, q_ite_f, beq_iff_eq, bne_iff_ne, q_ne, Nat.reduceAdd, Nat.reducePow, Int.reducePow, Nat.reduceMul, Nat.reduceSub, Nat.reduceLeDiff, Nat.reduceLT, Nat.reduceEqDiff, Int.reduceNeg, Int.reduceLT, Int.reduceLE, Int.reduceEq, Int.reduceNe, Int.reduceAdd, Int.reduceSub, Int.reduceMul, Int.reduceToNat, Int.reduceBEq, Int.reduceBNe, T10, hse, d1, d2, d3, d4, d5, hj, hd, hs, hle, rightG, capF, cap_eta, slA, lsA, Int.toNat_natCast, put, fillP, hr, c2, c3, ht', b0, v1, v2, he]
        intro c3 hc3
        have hlow := mem_low (M := []) (y := y) hM2 hyl
        refine IH (i + 1, [y], c3) _ z2 ⟨g1, g50, by show 1 ≤ i + 1; omega, hlow, hc3⟩ ?_
        simp only
        refine Wk.sel [0, 3] (by decide) hnq ?_ ?_ ?_ ?_ hcq (clean_pick hcq _)
        · simp (config := { maxSteps := 10000000 }) only [EV1, EV2, EV3, EV4, EV5, EV6, addT, istep, lenR_sl, lenR_ns, lenR_es, pickR, putD, bin1R, un1R, slcR, bnd, capsOf, fillP, S_plain, V_plain, V.cells, S_known, V_known, C.v, blk, setL, setH, eqS, eq1, cmpS, cmp1, isNil, popTo, killT, setT, leT, V.below, C.below, S_below, R.below, V.val, C.val, S_val, R.val, R.takes, vals, shows, List.any_cons, List.any_nil, unnamed, V.kill, V.names, C.names, S_names, R.names, List.set, List.replicate, ↓q_cond_t, ↓q_cond_f, if_true, if_false, reduceCtorEq, rvals, rvC, result, C_known, V.noL, C.noL, S_noL, R.noL, Option.map, true_and, and_true, ge_iff_le, gt_iff_lt, implies_true, q_ite_t, q_ite_f, beq_iff_eq, bne_iff_ne, q_ne, Nat.reduceAdd, Nat.reducePow, Int.reducePow, Nat.reduceMul, Nat.reduceSub, Nat.reduceLeDiff, Nat.reduceLT, Nat.reduceEqDiff, Int.reduceNeg, Int.reduceLT, Int.reduceLE, Int.reduceEq, Int.reduceNe, Int.reduceAdd, Int.reduceSub, Int.reduceMul, Int.reduceToNat, Int.reduceBEq, Int.reduceBNe, List.nil_append, Blk.ren, V.ren, C.ren, S_ren, wc_ren, R.pick_g, R.pick_0, R.pick_s, List.map_append, wc_cons, wc_snoc, wc_nil, slA, lsA, hjl, hse, hp2, hv2, Cap.cl, lay_ren, lay_valall, arr, Lay.cl, Cap.cl]
        · simp (config := { maxSteps := 10000000 }) only [EV1, EV2, EV3, EV4, EV5, EV6, addT, istep, lenR_sl, lenR_ns, lenR_es, pickR, putD, bin1R, un1R, slcR, bnd, capsOf, fillP, S_plain, V_plain, V.cells, S_known, V_known, C.v, blk, setL, setH, eqS, eq1, cmpS, cmp1, isNil, popTo, killT, setT, leT, V.below, C.below, S_below, R.below, V.val, C.val, S_val, R.val, R.takes, vals, shows, List.any_cons, List.any_nil, unnamed, V.kill, V.names, C.names, S_names, R.names, List.set, List.replicate, ↓q_cond_t, ↓q_cond_f, if_true, if_false, reduceCtorEq, rvals, rvC, result, C_known, V.noL, C.noL, S_noL, R.noL, Option.map, true_and, and_true, ge_iff_le, gt_iff_lt, implies_true, q_ite_t, q_ite_f, beq_iff_eq, bne_iff_ne, q_ne, Nat.reduceAdd, Nat.reducePow, Int.reducePow, Nat.reduceMul, Nat.reduceSub, Nat.reduceLeDiff, Nat.reduceLT, Nat.reduceEqDiff, Int.reduceNeg, Int.reduceLT, Int.reduceLE, Int.reduceEq, Int.reduceNe, Int.reduceAdd, Int.reduceSub, Int.reduceMul, Int.reduceToNat, Int.reduceBEq, Int.reduceBNe, List.nil_append, Blk.ren, V.ren, C.ren, S_ren, wc_ren, R.pick_g, R.pick_0, R.pick_s, slA, lsA, hjl, hse, hp2, hv2, Cap.cl, lay_ren, lay_valall, arr, Lay.cl, Cap.cl]
        · simp (config := { maxSteps := 10000000 }) only [EV1, EV2, EV3, EV4, EV5, EV6, addT, istep, lenR_sl, lenR_ns, lenR_es, pickR, putD, bin1R, un1R, slcR, bnd, capsOf, fillP, S_plain, V_plain, V.cells, S_known, V_known, C.v, blk, setL, setH, eqS, eq1, cmpS, cmp1, isNil, popTo, killT, setT, leT, V.below, C.below, S_below, R.below, V.val, C.val, S_val, R.val, R.takes, vals, shows, List.any_cons, List.any_nil, unnamed, V.kill, V.names, C.names, S_names, R.names, List.set, List.replicate, ↓q_cond_t, ↓q_cond_f, if_true, if_false, reduceCtorEq, rvals, rvC, result, C_known, V.noL, C.noL, S_noL, R.noL, Option.map, true_and, and_true, ge_iff_le, gt_iff_lt, implies_true, q_ite_t, q_ite_f, beq_iff_eq, bne_iff_ne, q_ne, Nat.reduceAdd, Nat.reducePow, Int.reducePow, Nat.reduceMul, Nat.reduceSub, Nat.reduceLeDiff, Nat.reduceLT, Nat.reduceEqDiff, Int.reduceNeg, Int.reduceLT, Int.reduceLE, Int.reduceEq, Int.reduceNe, Int.reduceAdd, Int.reduceSub, Int.reduceMul, Int.reduceToNat, Int.reduceBEq, Int.reduceBNe, List.nil_append, app_len, nlt0, nltn, Nat.reduceLT, Nat.le_add_right, slA, lsA, hjl, hse, hp2, hv2, Cap.cl, lay_ren, lay_valall, arr, Lay.cl, Cap.cl]
        · simp (config := { maxSteps := 10000000 }) only [EV1, EV2, EV3, EV4, EV5, EV6, addT, istep, lenR_sl, lenR_ns, lenR_es, pickR, putD, bin1R, un1R, slcR, bnd, capsOf, fillP, S_plain, V_plain, V.cells, S_known, V_known, C.v, blk, setL, setH, eqS, eq1, cmpS, cmp1, isNil, popTo, killT, setT, leT, V.below, C.below, S_below, R.below, V.val, C.val, S_val, R.val, R.takes, vals, shows, List.any_cons, List.any_nil, unnamed, V.kill, V.names, C.names, S_names, R.names, List.set, List.replicate, ↓q_cond_t, ↓q_cond_f, if_true, if_false, reduceCtorEq, rvals, rvC, result, C_known, V.noL, C.noL, S_noL, R.noL, Option.map, true_and, and_true, ge_iff_le, gt_iff_lt, implies_true, q_ite_t, q_ite_f, beq_iff_eq, bne_iff_ne, q_ne, Nat.reduceAdd, Nat.reducePow, Int.reducePow, Nat.reduceMul, Nat.reduceSub, Nat.reduceLeDiff, Nat.reduceLT, Nat.reduceEqDiff, Int.reduceNeg, Int.reduceLT, Int.reduceLE, Int.reduceEq, Int.reduceNe, Int.reduceAdd, Int.reduceSub, Int.reduceMul, Int.reduceToNat, Int.reduceBEq, Int.reduceBNe, List.nil_append, app_len, nlt0, nltn, Nat.reduceLT, Nat.le_add_right, vals_cons, vals_nil, wc_val, wc_vals, slA, lsA, hjl, hse, hp2, hv2, Cap.cl, lay_ren, lay_valall, arr, Lay.cl, Cap.cl]
      | cons z M =>
        cases hr : rightB y.cap with
        | false =>
          refine run_sound (Tab.ok_Γ _) 300 _ _ _ _ ?_
          simp (config := { maxSteps := 10000000 }) only [EV1, EV2, EV3, EV4, EV5, EV6, addT, istep, lenR_sl, lenR_ns, lenR_es, pickR, putD, bin1R, un1R, slcR, bnd, capsOf, fillP, S_plain, V_plain, V.cells, S_known, V_known, C.v, blk, setL, setH, eqS, eq1, cmpS, cmp1, isNil, popTo, killT, setT, leT, V.below, C.below, S_below, R.below, V.val, C.val, S_val, R.val, R.takes, vals, shows, List.any_cons, List.any_nil, unnamed, V.kill, V.names, C.names, S_names, R.names, List.set, List.replicate, ↓q_cond_t, ↓q_cond_f, if_true, if_false, reduceCtorEq, rvals, rvC, result, C_known, V.noL, C.noL, S_noL, R.noL, Option.map, true_and, and_true, ge_iff_le, gt_iff_lt, implies_true, q_ite_t, q_ite_f, beq_iff_eq, bne_iff_ne, q_ne, Nat.reduceAdd, Nat.reducePow, Int.reducePow, Nat.reduceMul, Nat.reduceSub, Nat.reduceLeDiff, Nat.reduceLT, Nat.reduceEqDiff, Int.reduceNeg, Int.reduceLT, Int.reduceLE, Int.reduceEq, Int.reduceNe, Int.reduceAdd, Int.reduceSub, Int.reduceMul, Int.reduceToNat, Int.reduceBEq, Int.reduceBNe, T10, hse, d1, d2, d3, d4, d5, hj, hd, hs, hle, rightG, capF, cap_eta, slA, lsA, Int.toNat_natCast, put, fillP, hr]
          refine IH (i + 1, z :: M, cp) _ z2 ⟨g1, g50, by show (z :: M).length ≤ i + 1; omega, hM2, hcp⟩ ?_
          refine Wk.keep 2 ?_ rfl ?_ ?_ ?_
          all_goals simp (config := { maxSteps := 10000000 }) only [EV1, EV2, EV3, EV4, EV5, EV6, addT, istep, lenR_sl, lenR_ns, lenR_es, pickR, putD, bin1R, un1R, slcR, bnd, capsOf, fillP, S_plain, V_plain, V.cells, S_known, V_known, C.v, blk, setL, setH, eqS, eq1, cmpS, cmp1, isNil, popTo, killT, setT, leT, V.below, C.below, S_below, R.below, V.val, C.val, S_val, R.val, R.takes, vals, shows, List.any_cons, List.any_nil, unnamed, V.kill, V.names, C.names, S_names, R.names, List.set, List.replicate, ↓q_cond_t, ↓q_cond_f, if_true, if_false, reduceCtorEq, rvals, rvC, result, C_known, V.noL, C.noL, S_noL, R.noL, Option.map, true_and, and_true, ge_iff_le, gt_iff_lt, implies_true, q_ite_t, q_ite_f, beq_iff_eq, bne_iff_ne, q_ne, Nat.reduceAdd, Nat.reducePow, Int.reducePow, Nat.reduceMul, Nat.reduceSub, Nat.reduceLeDiff, Nat.reduceLT, Nat.reduceEqDiff, Int.reduceNeg, Int.reduceLT, Int.reduceLE, Int.reduceEq, Int.reduceNe, Int.reduceAdd, Int.reduceSub, Int.reduceMul, Int.reduceToNat, Int.reduceBEq, Int.reduceBNe, hse, slA, lsA, hb1, hb2, lay_below, List.take_succ_cons, List.take_zero, Cap.cl]
        | true =>
        have hb := right_bounds hr
        by_cases c2 : 0 ≤ y.at_
        case neg =>
          refine run_sound (Tab.ok_Γ _) 300 _ _ _ _ ?_
          simp (config := { maxSteps := 10000000 }) only [EV1, EV2, EV3, EV4, EV5, EV6, addT, istep, lenR_sl, lenR_ns, lenR_es, pickR, putD, bin1R, un1R, slcR, bnd, capsOf, fillP, S_plain, V_plain, V.cells, S_known, V_known, C.v, blk, setL, setH, eqS, eq1, cmpS, cmp1, isNil, popTo, killT, setT, leT, V.below, C.below, S_below, R.below, V.val, C.val, S_val, R.val, R.takes, vals, shows, List.any_cons, List.any_nil, unnamed, V.kill, V.names, C.names, S_names, R.names, List.set, List.replicate, ↓q_cond_t, ↓q_cond_f, if_true, if_false, reduceCtorEq, rvals, rvC, result, C_known, V.noL, C.noL, S_noL, R.noL, Option.map, true_and, and_true, ge_iff_le, gt_iff_lt, implies_true, q_ite_t, q_ite_f, beq_iff_eq, bne_iff_ne, q_ne, Nat.reduceAdd, Nat.reducePow, Int.reducePow, Nat.reduceMul, Nat.reduceSub, Nat.reduceLeDiff, Nat.reduceLT, Nat.reduceEqDiff, Int.reduceNeg, Int.reduceLT, Int.reduceLE, Int.reduceEq, Int.reduceNe, Int.reduceAdd, Int.reduceSub, Int.reduceMul, Int.reduceToNat, Int.reduceBEq, Int.reduceBNe, T10, hse, d1, d2, d3, d4, d5, hj, hd, hs, hle, rightG, capF, cap_eta, slA, lsA, Int.toNat_natCast, put, fillP, hr, c2]
          refine IH (i + 1, z :: M, cp) _ z2 ⟨g1, g50, by show (z :: M).length ≤ i + 1; omega, hM2, hcp⟩ ?_
          refine Wk.keep 2 ?_ rfl ?_ ?_ ?_
          all_goals simp (config := { maxSteps := 10000000 }) only [EV1, EV2, EV3, EV4, EV5, EV6, addT, istep, lenR_sl, lenR_ns, lenR_es, pickR, putD, bin1R, un1R, slcR, bnd, capsOf, fillP, S_plain, V_plain, V.cells, S_known, V_known, C.v, blk, setL, setH, eqS, eq1, cmpS, cmp1, isNil, popTo, killT, setT, leT, V.below, C.below, S_below, R.below, V.val, C.val, S_val, R.val, R.takes, vals, shows, List.any_cons, List.any_nil, unnamed, V.kill, V.names, C.names, S_names, R.names, List.set, List.replicate, ↓q_cond_t, ↓q_cond_f, if_true, if_false, reduceCtorEq, rvals, rvC, result, C_known, V.noL, C.noL, S_noL, R.noL, Option.map, true_and, and_true, ge_iff_le, gt_iff_lt, implies_true, q_ite_t, q_ite_f, beq_iff_eq, bne_iff_ne, q_ne, Nat.reduceAdd, Nat.reducePow, Int.reducePow, Nat.reduceMul, Nat.reduceSub, Nat.reduceLeDiff, Nat.reduceLT, Nat.reduceEqDiff, Int.reduceNeg, Int.reduceLT, Int.reduceLE, Int.reduceEq, Int.reduceNe, Int.reduceAdd, Int.reduceSub, Int.reduceMul, Int.reduceToNat, Int.reduceBEq, Int.reduceBNe, hse, slA, lsA, hb1, hb2, lay_below, List.take_succ_cons, List.take_zero, Cap.cl]
        by_cases c3 : y.at_ < 2048
        case neg =>
          refine run_sound (Tab.ok_Γ _) 300 _ _ _ _ ?_
          simp (config := { maxSteps := 10000000 }) only [EV1, EV2, EV3, EV4, EV5, EV6, addT, istep, lenR_sl, lenR_ns, lenR_es, pickR, putD, bin1R, un1R, slcR, bnd, capsOf, fillP, S_plain, V_plain, V.cells, S_known, V_known, C.v, blk, setL, setH, eqS, eq1, cmpS, cmp1, isNil, popTo, killT, setT, leT, V.below, C.below, S_below, R.below, V.val, C.val, S_val, R.val, R.takes, vals, shows, List.any_cons, List.any_nil, unnamed, V.kill, V.names, C.names, S_names, R.names, List.set, List.replicate, ↓q_cond_t, ↓q_cond_f, if_true, if_false, reduceCtorEq, rvals, rvC, result, C_known, V.noL, C.noL, S_noL, R.noL, Option.map, true_and, and_true, ge_iff_le, gt_iff_lt, implies_true, q_ite_t, q_ite_f, beq_iff_eq, bne_iff_ne, q_ne, Nat.reduceAdd, Nat.reducePow, Int.reducePow, Nat.reduceMul, Nat.reduceSub, Nat.reduceLeDiff, Nat.reduceLT, Nat.reduceEqDiff, Int.reduceNeg, Int.reduceLT, Int.reduceLE, Int.reduceEq, Int.reduceNe, Int.reduceAdd, Int.reduceSub, Int.reduceMul, Int.reduceToNat, Int.reduceBEq, Int.reduceBNe, T10, hse, d1, d2, d3, d4, d5, hj, hd, hs, hle, rightG, capF, cap_eta, slA, lsA, Int.toNat_natCast, put, fillP, hr, c2, c3]
          refine IH (i + 1, z :: M, cp) _ z2 ⟨g1, g50, by show (z :: M).length ≤ i + 1; omega, hM2, hcp⟩ ?_
          refine Wk.keep 2 ?_ rfl ?_ ?_ ?_
          all_goals simp (config := { maxSteps := 10000000 }) only [EV1, EV2, EV3, EV4, EV5, EV6, addT, istep, lenR_sl, lenR_ns, lenR_es, pickR, putD, bin1R, un1R, slcR, bnd, capsOf, fillP, S_plain, V_plain, V.cells, S_known, V_known, C.v, blk, setL, setH, eqS, eq1, cmpS, cmp1, isNil, popTo, killT, setT, leT, V.below, C.below, S_below, R.below, V.val, C.val, S_val, R.val, R.takes, vals, shows, List.any_cons, List.any_nil, unnamed, V.kill, V.names, C.names, S_names, R.names, List.set, List.replicate, ↓q_cond_t, ↓q_cond_f, if_true, if_false, reduceCtorEq, rvals, rvC, result, C_known, V.noL, C.noL, S_noL, R.noL, Option.map, true_and, and_true, ge_iff_le, gt_iff_lt, implies_true, q_ite_t, q_ite_f, beq_iff_eq, bne_iff_ne, q_ne, Nat.reduceAdd, Nat.reducePow, Int.reducePow, Nat.reduceMul, Nat.reduceSub, Nat.reduceLeDiff, Nat.reduceLT, Nat.reduceEqDiff, Int.reduceNeg, Int.reduceLT, Int.reduceLE, Int.reduceEq, Int.reduceNe, Int.reduceAdd, Int.reduceSub, Int.reduceMul, Int.reduceToNat, Int.reduceBEq, Int.reduceBNe, hse, slA, lsA, hb1, hb2, lay_below, List.take_succ_cons, List.take_zero, Cap.cl]
        by_cases ht : y.cap.ty = 2
        case neg =>
          have ht' : (y.cap.ty != 2) = true := by simpa using ht
          have hyl : y.low := ⟨hr, c2, c3, fun e => absurd e ht⟩
          have hk2 := lay_known (z :: M)
          have hn2 := lay_names (z :: M)
          have hl2 := lay_len (z :: M)
          have hsn := lay_snoc (z :: M) y
          have hby : (M.length + 1 + 1) * 96 ≤ 140737488355328 := by simp only [List.length_cons] at hM; omega
          simp only [Lay.cl, Cap.cl, List.length_cons, List.cons_append] at hsn hl2 hcp
          refine run_sound (Tab.ok_Γ _) 300 _ _ _ _ ?_
          simp (config := { maxSteps := 10000000 }) only [EV1, EV2, EV3, EV4, EV5, EV6, addT, istep, lenR_sl, lenR_ns, lenR_es, pickR, putD, bin1R, un1R, slcR, bnd, capsOf, fillP, S_plain, V_plain, V.cells, S_known, V_known, C.v, blk, setL, setH, eqS, eq1, cmpS, cmp1, isNil, popTo, killT, setT, leT, V.below, C.below, S_below, R.below, V.val, C.val, S_val, R.val, R.takes, vals, shows, List.any_cons, List.any_nil, unnamed, V.kill, V.names, C.names, S_names, R.names, List.set, List.replicate, ↓q_cond_t, ↓q_cond_f, if_true, if_false, reduceCtorEq, rvals, rvC, result, C_known, V.noL, C.noL, S_noL, R.noL, Option.map, true_and, and_true, ge_iff_le, gt_iff_lt, implies_true, q_ite_t, q_ite_f, beq_iff_eq, bne_iff_ne, q_ne, Nat.reduceAdd, Nat.reducePow, Int.reducePow, Nat.reduceMul, Nat.reduceSub, Nat.reduceLeDiff, Nat.reduceLT, Nat.reduceEqDiff, Int.reduceNeg, Int.reduceLT, Int.reduceLE, Int.reduceEq, Int.reduceNe, Int.reduceAdd, Int.reduceSub, Int.reduceMul, Int.reduceToNat, Int.reduceBEq, Int.reduceBNe, T10, hse, d1, d2, d3, d4, d5, hj, hd, hs, hle, rightG, capF, cap_eta, slA, lsA, Int.toNat_natCast, put, fillP, hk2, hn2, hl2, hby, hcn, hnm2, hcp, hr, c2, c3, ht']
          intro c3 hc3
          have hlow := mem_low (M := z :: M) (y := y) hM2 hyl
          refine IH (i + 1, z :: (M ++ [y]), c3) _ z2 ⟨g1, g50, ?_, hlow, ?_⟩ ?_
          · show (z :: (M ++ [y])).length ≤ i + 1
            simp only [List.length_cons, List.length_append, List.length_nil] at hM ⊢; omega
          · show (z :: (M ++ [y])).length ≤ c3
            simp only [List.length_cons, List.length_append, List.length_nil]; omega
          simp only
          refine Wk.keep 2 ?_ rfl ?_ ?_ ?_
          all_goals simp (config := { maxSteps := 10000000 }) only [EV1, EV2, EV3, EV4, EV5, EV6, addT, istep, lenR_sl, lenR_ns, lenR_es, pickR, putD, bin1R, un1R, slcR, bnd, capsOf, fillP, S_plain, V_plain, V.cells, S_known, V_known, C.v, blk, setL, setH, eqS, eq1, cmpS, cmp1, isNil, popTo, killT, setT, leT, V.below, C.below, S_below, R.below, V.val, C.val, S_val, R.val, R.takes, vals, shows, List.any_cons, List.any_nil, unnamed, V.kill, V.names, C.names, S_names, R.names, List.set, List.replicate, ↓q_cond_t, ↓q_cond_f, if_true, if_false, reduceCtorEq, rvals, rvC, result, C_known, V.noL, C.noL, S_noL, R.noL, Option.map, true_and, and_true, ge_iff_le, gt_iff_lt, implies_true, q_ite_t, q_ite_f, beq_iff_eq, bne_iff_ne, q_ne, Nat.reduceAdd, Nat.reducePow, Int.reducePow, Nat.reduceMul, Nat.reduceSub, Nat.reduceLeDiff, Nat.reduceLT, Nat.reduceEqDiff, Int.reduceNeg, Int.reduceLT, Int.reduceLE, Int.reduceEq, Int.reduceNe, Int.reduceAdd, Int.reduceSub, Int.reduceMul, Int.reduceToNat, Int.reduceBEq, Int.reduceBNe, hse, hsn, slA, lsA, hnm2, hb1, hb2, lay_below, List.all_append, List.length_append, List.take_succ_cons, List.take_zero, Cap.cl]
        have ht' : (y.cap.ty != 2) = false := by simpa using ht
        obtain ⟨v1, v2⟩ := ends_wrap hb.bits hb.obj
        have b0 := hb.bits.1
        by_cases he : y.cap.ends ≤ 2048
        case neg =>
          refine run_sound (Tab.ok_Γ _) 300 _ _ _ _ ?_
          simp (config := { maxSteps := 10000000 }) only [EV1, EV2, EV3, EV4, EV5, EV6, addT, istep, lenR_sl, lenR_ns, lenR_es, pickR, putD, bin1R, un1R, slcR, bnd, capsOf, fillP, S_plain, V_plain, V.cells, S_known, V_known, C.v, blk, setL, setH, eqS, eq1, cmpS, cmp1, isNil, popTo, killT, setT, leT, V.below, C.below, S_below, R.below, V.val, C.val, S_val, R.val, R.takes, vals, shows, List.any_cons, List.any_nil, unnamed, V.kill, V.names, C.names, S_names, R.names, List.set, List.replicate, ↓q_cond_t, ↓q_cond_f, if_true, if_false, reduceCtorEq, rvals, rvC, result, C_known, V.noL, C.noL, S_noL, R.noL, Option.map, true_and, and_true, ge_iff_le, gt_iff_lt, implies_true, q_ite_t, q_ite_f, beq_iff_eq, bne_iff_ne, q_ne, Nat.reduceAdd, Nat.reducePow, Int.reducePow, Nat.reduceMul, Nat.reduceSub, Nat.reduceLeDiff, Nat.reduceLT, Nat.reduceEqDiff, Int.reduceNeg, Int.reduceLT, Int.reduceLE, Int.reduceEq, Int.reduceNe, Int.reduceAdd, Int.reduceSub, Int.reduceMul, Int.reduceToNat, Int.reduceBEq, Int.reduceBNe, T10, hse, d1, d2, d3, d4, d5, hj, hd, hs, hle, rightG, capF, cap_eta, slA, lsA, Int.toNat_natCast, put, fillP, hr, c2, c3, ht', b0, v1, v2, he]
          refine IH (i + 1, z :: M, cp) _ z2 ⟨g1, g50, by show (z :: M).length ≤ i + 1; omega, hM2, hcp⟩ ?_
          refine Wk.keep 2 ?_ rfl ?_ ?_ ?_
          all_goals simp (config := { maxSteps := 10000000 }) only [EV1, EV2, EV3, EV4, EV5, EV6, addT, istep, lenR_sl, lenR_ns, lenR_es, pickR, putD, bin1R, un1R, slcR, bnd, capsOf, fillP, S_plain, V_plain, V.cells, S_known, V_known, C.v, blk, setL, setH, eqS, eq1, cmpS, cmp1, isNil, popTo, killT, setT, leT, V.below, C.below, S_below, R.below, V.val, C.val, S_val, R.val, R.takes, vals, shows, List.any_cons, List.any_nil, unnamed, V.kill, V.names, C.names, S_names, R.names, List.set, List.replicate, ↓q_cond_t, ↓q_cond_f, if_true, if_false, reduceCtorEq, rvals, rvC, result, C_known, V.noL, C.noL, S_noL, R.noL, Option.map, true_and, and_true, ge_iff_le, gt_iff_lt, implies_true, q_ite_t, q_ite_f, beq_iff_eq, bne_iff_ne, q_ne, Nat.reduceAdd, Nat.reducePow, Int.reducePow, Nat.reduceMul, Nat.reduceSub, Nat.reduceLeDiff, Nat.reduceLT, Nat.reduceEqDiff, Int.reduceNeg, Int.reduceLT, Int.reduceLE, Int.reduceEq, Int.reduceNe, Int.reduceAdd, Int.reduceSub, Int.reduceMul, Int.reduceToNat, Int.reduceBEq, Int.reduceBNe, hse, slA, lsA, hb1, hb2, lay_below, List.take_succ_cons, List.take_zero, Cap.cl]
        have hyl : y.low := ⟨hr, c2, c3, fun _ => he⟩
        have hk2 := lay_known (z :: M)
        have hn2 := lay_names (z :: M)
        have hl2 := lay_len (z :: M)
        have hsn := lay_snoc (z :: M) y
        have hby : (M.length + 1 + 1) * 96 ≤ 140737488355328 := by simp only [List.length_cons] at hM; omega
        simp only [Lay.cl, Cap.cl, List.length_cons, List.cons_append] at hsn hl2 hcp
        refine run_sound (Tab.ok_Γ _) 300 _ _ _ _ ?_
        simp (config := { maxSteps := 10000000 }) only [EV1, EV2, EV3, EV4, EV5, EV6, addT, istep, lenR_sl, lenR_ns, lenR_es, pickR, putD, bin1R, un1R, slcR, bnd, capsOf, fillP, S_plain, V_plain, V.cells, S_known, V_known, C.v, blk, setL, setH, eqS, eq1, cmpS, cmp1, isNil, popTo, killT, setT, leT, V.below, C.below, S_below, R.below, V.val, C.val, S_val, R.val, R.takes, vals, shows, List.any_cons, List.any_nil, unnamed, V.kill, V.names, C.names, S_names, R.names, List.set, List.replicate, ↓q_cond_t, ↓q_cond_f, if_true, if_false, reduceCtorEq, rvals, rvC, result, C_known, V.noL, C.noL, S_noL, R.noL, Option.map, true_and, and_true, ge_iff_le, gt_iff_lt, implies_true, q_ite_t, q_ite_f, beq_iff_eq, bne_iff_ne, q_ne, Nat.reduceAdd, Nat.reducePow, Int.reducePow, Nat.reduceMul, Nat.reduceSub, Nat.reduceLeDiff, Nat.reduceLT, Nat.reduceEqDiff, Int.reduceNeg, Int.reduceLT, Int.reduceLE, Int.reduceEq, Int.reduceNe, Int.reduceAdd, Int.reduceSub, Int.reduceMul, Int.reduceToNat, Int.reduceBEq, Int.reduceBNe, T10, hse, d1, d2, d3, d4, d5, hj, hd, hs, hle, rightG, capF, cap_eta, slA, lsA, Int.toNat_natCast, put, fillP, hk2, hn2, hl2, hby, hcn, hnm2, hcp, hr, c2, c3, ht', b0, v1, v2, he]
        intro c3 hc3
        have hlow := mem_low (M := z :: M) (y := y) hM2 hyl
        refine IH (i + 1, z :: (M ++ [y]), c3) _ z2 ⟨g1, g50, ?_, hlow, ?_⟩ ?_
        · show (z :: (M ++ [y])).length ≤ i + 1
          simp only [List.length_cons, List.length_append, List.length_nil] at hM ⊢; omega
        · show (z :: (M ++ [y])).length ≤ c3
          simp only [List.length_cons, List.length_append, List.length_nil]; omega
        simp only
        refine Wk.keep 2 ?_ rfl ?_ ?_ ?_
        all_goals simp (config := { maxSteps := 10000000 }) only [EV1, EV2, EV3, EV4, EV5, EV6, addT, istep, lenR_sl, lenR_ns, lenR_es, pickR, putD, bin1R, un1R, slcR, bnd, capsOf, fillP, S_plain, V_plain, V.cells, S_known, V_known, C.v, blk, setL, setH, eqS, eq1, cmpS, cmp1, isNil, popTo, killT, setT, leT, V.below, C.below, S_below, R.below, V.val, C.val, S_val, R.val, R.takes, vals, shows, List.any_cons, List.any_nil, unnamed, V.kill, V.names, C.names, S_names, R.names, List.set, List.replicate, ↓q_cond_t, ↓q_cond_f, if_true, if_false, reduceCtorEq, rvals, rvC, result, C_known, V.noL, C.noL, S_noL, R.noL, Option.map, true_and, and_true, ge_iff_le, gt_iff_lt, implies_true, q_ite_t, q_ite_f, beq_iff_eq, bne_iff_ne, q_ne, Nat.reduceAdd, Nat.reducePow, Int.reducePow, Nat.reduceMul, Nat.reduceSub, Nat.reduceLeDiff, Nat.reduceLT, Nat.reduceEqDiff, Int.reduceNeg, Int.reduceLT, Int.reduceLE, Int.reduceEq, Int.reduceNe, Int.reduceAdd, Int.reduceSub, Int.reduceMul, Int.reduceToNat, Int.reduceBEq, Int.reduceBNe, hse, hsn, slA, lsA, hnm2, hb1, hb2, lay_below, List.all_append, List.length_append, List.take_succ_cons, List.take_zero, Cap.cl]
    · have fin0 := fun (hM0 : M = []) => local_end1 (n0 := h.length) (K := K) (H := h ++ [⟨.rw, c.cl, 11⟩]) (q := h.length) (s2 := s2) (x := .ns) (low := []) (more := more) (c := c) (w := w) (d := d)
        (by simp) (clean_app hc (by simp) (by rfl)) (by rw [app_get0]; rfl) (.inl ⟨.inl rfl, rfl⟩) H2.app (Nat.zero_le _) hl2 hu (by intro y hy; simp at hy) hK
      have hh1 : h.length < h.length + 1 := by omega
      have hh2 : h.length < h.length + 2 := by omega
      have hh3 : h.length + 1 < h.length + 2 := by omega
      have hbox : ∀ n : Nat, (arr Lay.cl [] : List S) = [] := fun _ => rfl
      by_cases g1 : (i : Int) < L.length
      · have g2 : ¬ (i : Int) < 50 := by omega
        cases M with
        | nil =>
          refine run_sound (Tab.ok_Γ _) 300 _ _ _ _ ?_
          simp (config := { maxSteps := 10000000 }) only [EV1, EV2, EV3, EV4, EV5, EV6, addT, istep, lenR_sl, lenR_ns, lenR_es, pickR, putD, bin1R, un1R, slcR, bnd, capsOf, fillP, S_plain, V_plain, V.cells, S_known, V_known, C.v, blk, setL, setH, eqS, eq1, cmpS, cmp1, isNil, popTo, killT, setT, leT, V.below, C.below, S_below, R.below, V.val, C.val, S_val, R.val, R.takes, vals, shows, List.any_cons, List.any_nil, unnamed, V.kill, V.names, C.names, S_names, R.names, List.set, List.replicate, ↓q_cond_t, ↓q_cond_f, if_true, if_false, reduceCtorEq, rvals, rvC, result, C_known, V.noL, C.noL, S_noL, R.noL, Option.map, true_and, and_true, ge_iff_le, gt_iff_lt, implies_true, q_ite_t, q_ite_f, beq_iff_eq, bne_iff_ne, q_ne, Nat.reduceAdd, Nat.reducePow, Int.reducePow, Nat.reduceMul, Nat.reduceSub, Nat.reduceLeDiff, Nat.reduceLT, Nat.reduceEqDiff, Int.reduceNeg, Int.reduceLT, Int.reduceLE, Int.reduceEq, Int.reduceNe, Int.reduceAdd, Int.reduceSub, Int.reduceMul, Int.reduceToNat, Int.reduceBEq, Int.reduceBNe, hlen, g1, g2]
          refine swp_weak (Wk.share 0 hnq ?_ ?_ ?_ ?_ ?_ hc) (fin0 rfl)
          · simp (config := { maxSteps := 10000000 }) only [EV1, EV2, EV3, EV4, EV5, EV6, addT, istep, lenR_sl, lenR_ns, lenR_es, pickR, putD, bin1R, un1R, slcR, bnd, capsOf, fillP, S_plain, V_plain, V.cells, S_known, V_known, C.v, blk, setL, setH, eqS, eq1, cmpS, cmp1, isNil, popTo, killT, setT, leT, V.below, C.below, S_below, R.below, V.val, C.val, S_val, R.val, R.takes, vals, shows, List.any_cons, List.any_nil, unnamed, V.kill, V.names, C.names, S_names, R.names, List.set, List.replicate, ↓q_cond_t, ↓q_cond_f, if_true, if_false, reduceCtorEq, rvals, rvC, result, C_known, V.noL, C.noL, S_noL, R.noL, Option.map, true_and, and_true, ge_iff_le, gt_iff_lt, implies_true, q_ite_t, q_ite_f, beq_iff_eq, bne_iff_ne, q_ne, Nat.reduceAdd, Nat.reducePow, Int.reducePow, Nat.reduceMul, Nat.reduceSub, Nat.reduceLeDiff, Nat.reduceLT, Nat.reduceEqDiff, Int.reduceNeg, Int.reduceLT, Int.reduceLE, Int.reduceEq, Int.reduceNe, Int.reduceAdd, Int.reduceSub, Int.reduceMul, Int.reduceToNat, Int.reduceBEq, Int.reduceBNe, slA, lsA, List.map_cons, List.map_nil, Blk.ren, S_ren, List.drop_zero, Cap.cl]
          · simp (config := { maxSteps := 10000000 }) only [EV1, EV2, EV3, EV4, EV5, EV6, addT, istep, lenR_sl, lenR_ns, lenR_es, pickR, putD, bin1R, un1R, slcR, bnd, capsOf, fillP, S_plain, V_plain, V.cells, S_known, V_known, C.v, blk, setL, setH, eqS, eq1, cmpS, cmp1, isNil, popTo, killT, setT, leT, V.below, C.below, S_below, R.below, V.val, C.val, S_val, R.val, R.takes, vals, shows, List.any_cons, List.any_nil, unnamed, V.kill, V.names, C.names, S_names, R.names, List.set, List.replicate, ↓q_cond_t, ↓q_cond_f, if_true, if_false, reduceCtorEq, rvals, rvC, result, C_known, V.noL, C.noL, S_noL, R.noL, Option.map, true_and, and_true, ge_iff_le, gt_iff_lt, implies_true, q_ite_t, q_ite_f, beq_iff_eq, bne_iff_ne, q_ne, Nat.reduceAdd, Nat.reducePow, Int.reducePow, Nat.reduceMul, Nat.reduceSub, Nat.reduceLeDiff, Nat.reduceLT, Nat.reduceEqDiff, Int.reduceNeg, Int.reduceLT, Int.reduceLE, Int.reduceEq, Int.reduceNe, Int.reduceAdd, Int.reduceSub, Int.reduceMul, Int.reduceToNat, Int.reduceBEq, Int.reduceBNe, slA, lsA, List.drop_zero]
          · simp (config := { maxSteps := 10000000 }) only [EV1, EV2, EV3, EV4, EV5, EV6, addT, istep, lenR_sl, lenR_ns, lenR_es, pickR, putD, bin1R, un1R, slcR, bnd, capsOf, fillP, S_plain, V_plain, V.cells, S_known, V_known, C.v, blk, setL, setH, eqS, eq1, cmpS, cmp1, isNil, popTo, killT, setT, leT, V.below, C.below, S_below, R.below, V.val, C.val, S_val, R.val, R.takes, vals, shows, List.any_cons, List.any_nil, unnamed, V.kill, V.names, C.names, S_names, R.names, List.set, List.replicate, ↓q_cond_t, ↓q_cond_f, if_true, if_false, reduceCtorEq, rvals, rvC, result, C_known, V.noL, C.noL, S_noL, R.noL, Option.map, true_and, and_true, ge_iff_le, gt_iff_lt, implies_true, q_ite_t, q_ite_f, beq_iff_eq, bne_iff_ne, q_ne, Nat.reduceAdd, Nat.reducePow, Int.reducePow, Nat.reduceMul, Nat.reduceSub, Nat.reduceLeDiff, Nat.reduceLT, Nat.reduceEqDiff, Int.reduceNeg, Int.reduceLT, Int.reduceLE, Int.reduceEq, Int.reduceNe, Int.reduceAdd, Int.reduceSub, Int.reduceMul, Int.reduceToNat, Int.reduceBEq, Int.reduceBNe, slA, local1T, setT, List.map_cons, List.map_nil, V.ren, S_ren, hpl, R.unl_0]
          · simp (config := { maxSteps := 10000000 }) only [EV1, EV2, EV3, EV4, EV5, EV6, addT, istep, lenR_sl, lenR_ns, lenR_es, pickR, putD, bin1R, un1R, slcR, bnd, capsOf, fillP, S_plain, V_plain, V.cells, S_known, V_known, C.v, blk, setL, setH, eqS, eq1, cmpS, cmp1, isNil, popTo, killT, setT, leT, V.below, C.below, S_below, R.below, V.val, C.val, S_val, R.val, R.takes, vals, shows, List.any_cons, List.any_nil, unnamed, V.kill, V.names, C.names, S_names, R.names, List.set, List.replicate, ↓q_cond_t, ↓q_cond_f, if_true, if_false, reduceCtorEq, rvals, rvC, result, C_known, V.noL, C.noL, S_noL, R.noL, Option.map, true_and, and_true, ge_iff_le, gt_iff_lt, implies_true, q_ite_t, q_ite_f, beq_iff_eq, bne_iff_ne, q_ne, Nat.reduceAdd, Nat.reducePow, Int.reducePow, Nat.reduceMul, Nat.reduceSub, Nat.reduceLeDiff, Nat.reduceLT, Nat.reduceEqDiff, Int.reduceNeg, Int.reduceLT, Int.reduceLE, Int.reduceEq, Int.reduceNe, Int.reduceAdd, Int.reduceSub, Int.reduceMul, Int.reduceToNat, Int.reduceBEq, Int.reduceBNe, local1T, setT, hv3, hh1]
          · rfl
        | cons z M =>
          have fin1 := local_end1 (n0 := h.length) (K := K) (H := h ++ [⟨.rw, c.cl, 11⟩, ⟨.rw, arr Lay.cl (z :: M), cp * 12⟩]) (q := h.length) (s2 := s2) (x := .sl (.g (h.length + 1)) 0 (M.length + 1) cp) (low := z :: M) (more := more) (c := c) (w := w) (d := d)
            (by simp) (clean_app hc (by simp) (by simp only [clean, List.all_cons, List.all_nil, Bool.and_true]; rw [lay_vals]; rfl)) (by rw [app_get0]; rfl) (.inr ⟨h.length + 1, cp, .rw, cp * 12, rfl, by rw [app_getn]; rfl, fun _ => by simp⟩) H2.app (by omega) hl2 hu hM2 hK
          refine run_sound (Tab.ok_Γ _) 300 _ _ _ _ ?_
          simp (config := { maxSteps := 10000000 }) only [EV1, EV2, EV3, EV4, EV5, EV6, addT, istep, lenR_sl, lenR_ns, lenR_es, pickR, putD, bin1R, un1R, slcR, bnd, capsOf, fillP, S_plain, V_plain, V.cells, S_known, V_known, C.v, blk, setL, setH, eqS, eq1, cmpS, cmp1, isNil, popTo, killT, setT, leT, V.below, C.below, S_below, R.below, V.val, C.val, S_val, R.val, R.takes, vals, shows, List.any_cons, List.any_nil, unnamed, V.kill, V.names, C.names, S_names, R.names, List.set, List.replicate, ↓q_cond_t, ↓q_cond_f, if_true, if_false, reduceCtorEq, rvals, rvC, result, C_known, V.noL, C.noL, S_noL, R.noL, Option.map, true_and, and_true, ge_iff_le, gt_iff_lt, implies_true, q_ite_t, q_ite_f, beq_iff_eq, bne_iff_ne, q_ne, Nat.reduceAdd, Nat.reducePow, Int.reducePow, Nat.reduceMul, Nat.reduceSub, Nat.reduceLeDiff, Nat.reduceLT, Nat.reduceEqDiff, Int.reduceNeg, Int.reduceLT, Int.reduceLE, Int.reduceEq, Int.reduceNe, Int.reduceAdd, Int.reduceSub, Int.reduceMul, Int.reduceToNat, Int.reduceBEq, Int.reduceBNe, hlen, g1, g2]
          refine swp_weak (Wk.share 0 hnq ?_ ?_ ?_ ?_ ?_ hc) fin1
          · simp (config := { maxSteps := 10000000 }) only [EV1, EV2, EV3, EV4, EV5, EV6, addT, istep, lenR_sl, lenR_ns, lenR_es, pickR, putD, bin1R, un1R, slcR, bnd, capsOf, fillP, S_plain, V_plain, V.cells, S_known, V_known, C.v, blk, setL, setH, eqS, eq1, cmpS, cmp1, isNil, popTo, killT, setT, leT, V.below, C.below, S_below, R.below, V.val, C.val, S_val, R.val, R.takes, vals, shows, List.any_cons, List.any_nil, unnamed, V.kill, V.names, C.names, S_names, R.names, List.set, List.replicate, ↓q_cond_t, ↓q_cond_f, if_true, if_false, reduceCtorEq, rvals, rvC, result, C_known, V.noL, C.noL, S_noL, R.noL, Option.map, true_and, and_true, ge_iff_le, gt_iff_lt, implies_true, q_ite_t, q_ite_f, beq_iff_eq, bne_iff_ne, q_ne, Nat.reduceAdd, Nat.reducePow, Int.reducePow, Nat.reduceMul, Nat.reduceSub, Nat.reduceLeDiff, Nat.reduceLT, Nat.reduceEqDiff, Int.reduceNeg, Int.reduceLT, Int.reduceLE, Int.reduceEq, Int.reduceNe, Int.reduceAdd, Int.reduceSub, Int.reduceMul, Int.reduceToNat, Int.reduceBEq, Int.reduceBNe, slA, lsA, List.map_cons, List.map_nil, Blk.ren, S_ren, lay_ren, List.drop_zero, Cap.cl]
          · simp (config := { maxSteps := 10000000 }) only [EV1, EV2, EV3, EV4, EV5, EV6, addT, istep, lenR_sl, lenR_ns, lenR_es, pickR, putD, bin1R, un1R, slcR, bnd, capsOf, fillP, S_plain, V_plain, V.cells, S_known, V_known, C.v, blk, setL, setH, eqS, eq1, cmpS, cmp1, isNil, popTo, killT, setT, leT, V.below, C.below, S_below, R.below, V.val, C.val, S_val, R.val, R.takes, vals, shows, List.any_cons, List.any_nil, unnamed, V.kill, V.names, C.names, S_names, R.names, List.set, List.replicate, ↓q_cond_t, ↓q_cond_f, if_true, if_false, reduceCtorEq, rvals, rvC, result, C_known, V.noL, C.noL, S_noL, R.noL, Option.map, true_and, and_true, ge_iff_le, gt_iff_lt, implies_true, q_ite_t, q_ite_f, beq_iff_eq, bne_iff_ne, q_ne, Nat.reduceAdd, Nat.reducePow, Int.reducePow, Nat.reduceMul, Nat.reduceSub, Nat.reduceLeDiff, Nat.reduceLT, Nat.reduceEqDiff, Int.reduceNeg, Int.reduceLT, Int.reduceLE, Int.reduceEq, Int.reduceNe, Int.reduceAdd, Int.reduceSub, Int.reduceMul, Int.reduceToNat, Int.reduceBEq, Int.reduceBNe, slA, lsA, List.drop_zero]
          · simp (config := { maxSteps := 10000000 }) only [EV1, EV2, EV3, EV4, EV5, EV6, addT, istep, lenR_sl, lenR_ns, lenR_es, pickR, putD, bin1R, un1R, slcR, bnd, capsOf, fillP, S_plain, V_plain, V.cells, S_known, V_known, C.v, blk, setL, setH, eqS, eq1, cmpS, cmp1, isNil, popTo, killT, setT, leT, V.below, C.below, S_below, R.below, V.val, C.val, S_val, R.val, R.takes, vals, shows, List.any_cons, List.any_nil, unnamed, V.kill, V.names, C.names, S_names, R.names, List.set, List.replicate, ↓q_cond_t, ↓q_cond_f, if_true, if_false, reduceCtorEq, rvals, rvC, result, C_known, V.noL, C.noL, S_noL, R.noL, Option.map, true_and, and_true, ge_iff_le, gt_iff_lt, implies_true, q_ite_t, q_ite_f, beq_iff_eq, bne_iff_ne, q_ne, Nat.reduceAdd, Nat.reducePow, Int.reducePow, Nat.reduceMul, Nat.reduceSub, Nat.reduceLeDiff, Nat.reduceLT, Nat.reduceEqDiff, Int.reduceNeg, Int.reduceLT, Int.reduceLE, Int.reduceEq, Int.reduceNe, Int.reduceAdd, Int.reduceSub, Int.reduceMul, Int.reduceToNat, Int.reduceBEq, Int.reduceBNe, slA, local1T, setT, List.map_cons, List.map_nil, V.ren, S_ren, hpl, R.unl_0, R.unl_s]
          · simp (config := { maxSteps := 10000000 }) only [EV1, EV2, EV3, EV4, EV5, EV6, addT, istep, lenR_sl, lenR_ns, lenR_es, pickR, putD, bin1R, un1R, slcR, bnd, capsOf, fillP, S_plain, V_plain, V.cells, S_known, V_known, C.v, blk, setL, setH, eqS, eq1, cmpS, cmp1, isNil, popTo, killT, setT, leT, V.below, C.below, S_below, R.below, V.val, C.val, S_val, R.val, R.takes, vals, shows, List.any_cons, List.any_nil, unnamed, V.kill, V.names, C.names, S_names, R.names, List.set, List.replicate, ↓q_cond_t, ↓q_cond_f, if_true, if_false, reduceCtorEq, rvals, rvC, result, C_known, V.noL, C.noL, S_noL, R.noL, Option.map, true_and, and_true, ge_iff_le, gt_iff_lt, implies_true, q_ite_t, q_ite_f, beq_iff_eq, bne_iff_ne, q_ne, Nat.reduceAdd, Nat.reducePow, Int.reducePow, Nat.reduceMul, Nat.reduceSub, Nat.reduceLeDiff, Nat.reduceLT, Nat.reduceEqDiff, Int.reduceNeg, Int.reduceLT, Int.reduceLE, Int.reduceEq, Int.reduceNe, Int.reduceAdd, Int.reduceSub, Int.reduceMul, Int.reduceToNat, Int.reduceBEq, Int.reduceBNe, local1T, setT, hv3, hh2, hh3]
          · simp only [clean_cons, clean_nil, lay_vals, Bool.and_true]; rfl
      · skip
        cases M with
        | nil =>
          refine run_sound (Tab.ok_Γ _) 300 _ _ _ _ ?_
          simp (config := { maxSteps := 10000000 }) only [EV1, EV2, EV3, EV4, EV5, EV6, addT, istep, lenR_sl, lenR_ns, lenR_es, pickR, putD, bin1R, un1R, slcR, bnd, capsOf, fillP, S_plain, V_plain, V.cells, S_known, V_known, C.v, blk, setL, setH, eqS, eq1, cmpS, cmp1, isNil, popTo, killT, setT, leT, V.below, C.below, S_below, R.below, V.val, C.val, S_val, R.val, R.takes, vals, shows, List.any_cons, List.any_nil, unnamed, V.kill, V.names, C.names, S_names, R.names, List.set, List.replicate, ↓q_cond_t, ↓q_cond_f, if_true, if_false, reduceCtorEq, rvals, rvC, result, C_known, V.noL, C.noL, S_noL, R.noL, Option.map, true_and, and_true, ge_iff_le, gt_iff_lt, implies_true, q_ite_t, q_ite_f, beq_iff_eq, bne_iff_ne, q_ne, Nat.reduceAdd, Nat.reducePow, Int.reducePow, Nat.reduceMul, Nat.reduceSub, Nat.reduceLeDiff, Nat.reduceLT, Nat.reduceEqDiff, Int.reduceNeg, Int.reduceLT, Int.reduceLE, Int.reduceEq, Int.reduceNe, Int.reduceAdd, Int.reduceSub, Int.reduceMul, Int.reduceToNat, Int.reduceBEq, Int.reduceBNe, hlen, g1]
          refine swp_weak (Wk.share 0 hnq ?_ ?_ ?_ ?_ ?_ hc) (fin0 rfl)
          · simp (config := { maxSteps := 10000000 }) only [EV1, EV2, EV3, EV4, EV5, EV6, addT, istep, lenR_sl, lenR_ns, lenR_es, pickR, putD, bin1R, un1R, slcR, bnd, capsOf, fillP, S_plain, V_plain, V.cells, S_known, V_known, C.v, blk, setL, setH, eqS, eq1, cmpS, cmp1, isNil, popTo, killT, setT, leT, V.below, C.below, S_below, R.below, V.val, C.val, S_val, R.val, R.takes, vals, shows, List.any_cons, List.any_nil, unnamed, V.kill, V.names, C.names, S_names, R.names, List.set, List.replicate, ↓q_cond_t, ↓q_cond_f, if_true, if_false, reduceCtorEq, rvals, rvC, result, C_known, V.noL, C.noL, S_noL, R.noL, Option.map, true_and, and_true, ge_iff_le, gt_iff_lt, implies_true, q_ite_t, q_ite_f, beq_iff_eq, bne_iff_ne, q_ne, Nat.reduceAdd, Nat.reducePow, Int.reducePow, Nat.reduceMul, Nat.reduceSub, Nat.reduceLeDiff, Nat.reduceLT, Nat.reduceEqDiff, Int.reduceNeg, Int.reduceLT, Int.reduceLE, Int.reduceEq, Int.reduceNe, Int.reduceAdd, Int.reduceSub, Int.reduceMul, Int.reduceToNat, Int.reduceBEq, Int.reduceBNe, slA, lsA, List.map_cons, List.map_nil, Blk.ren, S_ren, List.drop_zero, Cap.cl]
          · simp (config := { maxSteps := 10000000 }) only [EV1, EV2, EV3, EV4, EV5, EV6, addT, istep, lenR_sl, lenR_ns, lenR_es, pickR, putD, bin1R, un1R, slcR, bnd, capsOf, fillP, S_plain, V_plain, V.cells, S_known, V_known, C.v, blk, setL, setH, eqS, eq1, cmpS, cmp1, isNil, popTo, killT, setT, leT, V.below, C.below, S_below, R.below, V.val, C.val, S_val, R.val, R.takes, vals, shows, List.any_cons, List.any_nil, unnamed, V.kill, V.names, C.names, S_names, R.names, List.set, List.replicate, ↓q_cond_t, ↓q_cond_f, if_true, if_false, reduceCtorEq, rvals, rvC, result, C_known, V.noL, C.noL, S_noL, R.noL, Option.map, true_and, and_true, ge_iff_le, gt_iff_lt, implies_true, q_ite_t, q_ite_f, beq_iff_eq, bne_iff_ne, q_ne, Nat.reduceAdd, Nat.reducePow, Int.reducePow, Nat.reduceMul, Nat.reduceSub, Nat.reduceLeDiff, Nat.reduceLT, Nat.reduceEqDiff, Int.reduceNeg, Int.reduceLT, Int.reduceLE, Int.reduceEq, Int.reduceNe, Int.reduceAdd, Int.reduceSub, Int.reduceMul, Int.reduceToNat, Int.reduceBEq, Int.reduceBNe, slA, lsA, List.drop_zero]
          · simp (config := { maxSteps := 10000000 }) only [EV1, EV2, EV3, EV4, EV5, EV6, addT, istep, lenR_sl, lenR_ns, lenR_es, pickR, putD, bin1R, un1R, slcR, bnd, capsOf, fillP, S_plain, V_plain, V.cells, S_known, V_known, C.v, blk, setL, setH, eqS, eq1, cmpS, cmp1, isNil, popTo, killT, setT, leT, V.below, C.below, S_below, R.below, V.val, C.val, S_val, R.val, R.takes, vals, shows, List.any_cons, List.any_nil, unnamed, V.kill, V.names, C.names, S_names, R.names, List.set, List.replicate, ↓q_cond_t, ↓q_cond_f, if_true, if_false, reduceCtorEq, rvals, rvC, result, C_known, V.noL, C.noL, S_noL, R.noL, Option.map, true_and, and_true, ge_iff_le, gt_iff_lt, implies_true, q_ite_t, q_ite_f, beq_iff_eq, bne_iff_ne, q_ne, Nat.reduceAdd, Nat.reducePow, Int.reducePow, Nat.reduceMul, Nat.reduceSub, Nat.reduceLeDiff, Nat.reduceLT, Nat.reduceEqDiff, Int.reduceNeg, Int.reduceLT, Int.reduceLE, Int.reduceEq, Int.reduceNe, Int.reduceAdd, Int.reduceSub, Int.reduceMul, Int.reduceToNat, Int.reduceBEq, Int.reduceBNe, slA, local1T, setT, List.map_cons, List.map_nil, V.ren, S_ren, hpl, R.unl_0]
          · simp (config := { maxSteps := 10000000 }) only [EV1, EV2, EV3, EV4, EV5, EV6, addT, istep, lenR_sl, lenR_ns, lenR_es, pickR, putD, bin1R, un1R, slcR, bnd, capsOf, fillP, S_plain, V_plain, V.cells, S_known, V_known, C.v, blk, setL, setH, eqS, eq1, cmpS, cmp1, isNil, popTo, killT, setT, leT, V.below, C.below, S_below, R.below, V.val, C.val, S_val, R.val, R.takes, vals, shows, List.any_cons, List.any_nil, unnamed, V.kill, V.names, C.names, S_names, R.names, List.set, List.replicate, ↓q_cond_t, ↓q_cond_f, if_true, if_false, reduceCtorEq, rvals, rvC, result, C_known, V.noL, C.noL, S_noL, R.noL, Option.map, true_and, and_true, ge_iff_le, gt_iff_lt, implies_true, q_ite_t, q_ite_f, beq_iff_eq, bne_iff_ne, q_ne, Nat.reduceAdd, Nat.reducePow, Int.reducePow, Nat.reduceMul, Nat.reduceSub, Nat.reduceLeDiff, Nat.reduceLT, Nat.reduceEqDiff, Int.reduceNeg, Int.reduceLT, Int.reduceLE, Int.reduceEq, Int.reduceNe, Int.reduceAdd, Int.reduceSub, Int.reduceMul, Int.reduceToNat, Int.reduceBEq, Int.reduceBNe, local1T, setT, hv3, hh1]
          · rfl
        | cons z M =>
          have fin1 := local_end1 (n0 := h.length) (K := K) (H := h ++ [⟨.rw, c.cl, 11⟩, ⟨.rw, arr Lay.cl (z :: M), cp * 12⟩]) (q := h.length) (s2 := s2) (x := .sl (.g (h.length + 1)) 0 (M.length + 1) cp) (low := z :: M) (more := more) (c := c) (w := w) (d := d)
            (by simp) (clean_app hc (by simp) (by simp only [clean, List.all_cons, List.all_nil, Bool.and_true]; rw [lay_vals]; rfl)) (by rw [app_get0]; rfl) (.inr ⟨h.length + 1, cp, .rw, cp * 12, rfl, by rw [app_getn]; rfl, fun _ => by simp⟩) H2.app (by omega) hl2 hu hM2 hK
          refine run_sound (Tab.ok_Γ _) 300 _ _ _ _ ?_
          simp (config := { maxSteps := 10000000 }) only [EV1, EV2, EV3, EV4, EV5, EV6, addT, istep, lenR_sl, lenR_ns, lenR_es, pickR, putD, bin1R, un1R, slcR, bnd, capsOf, fillP, S_plain, V_plain, V.cells, S_known, V_known, C.v, blk, setL, setH, eqS, eq1, cmpS, cmp1, isNil, popTo, killT, setT, leT, V.below, C.below, S_below, R.below, V.val, C.val, S_val, R.val, R.takes, vals, shows, List.any_cons, List.any_nil, unnamed, V.kill, V.names, C.names, S_names, R.names, List.set, List.replicate, ↓q_cond_t, ↓q_cond_f, if_true, if_false, reduceCtorEq, rvals, rvC, result, C_known, V.noL, C.noL, S_noL, R.noL, Option.map, true_and, and_true, ge_iff_le, gt_iff_lt, implies_true, q_ite_t, q_ite_f, beq_iff_eq, bne_iff_ne, q_ne, Nat.reduceAdd, Nat.reducePow, Int.reducePow, Nat.reduceMul, Nat.reduceSub, Nat.reduceLeDiff, Nat.reduceLT, Nat.reduceEqDiff, Int.reduceNeg, Int.reduceLT, Int.reduceLE, Int.reduceEq, Int.reduceNe, Int.reduceAdd, Int.reduceSub, Int.reduceMul, Int.reduceToNat, Int.reduceBEq, Int.reduceBNe, hlen, g1]
          refine swp_weak (Wk.share 0 hnq ?_ ?_ ?_ ?_ ?_ hc) fin1
          · simp (config := { maxSteps := 10000000 }) only [EV1, EV2, EV3, EV4, EV5, EV6, addT, istep, lenR_sl, lenR_ns, lenR_es, pickR, putD, bin1R, un1R, slcR, bnd, capsOf, fillP, S_plain, V_plain, V.cells, S_known, V_known, C.v, blk, setL, setH, eqS, eq1, cmpS, cmp1, isNil, popTo, killT, setT, leT, V.below, C.below, S_below, R.below, V.val, C.val, S_val, R.val, R.takes, vals, shows, List.any_cons, List.any_nil, unnamed, V.kill, V.names, C.names, S_names, R.names, List.set, List.replicate, ↓q_cond_t, ↓q_cond_f, if_true, if_false, reduceCtorEq, rvals, rvC, result, C_known, V.noL, C.noL, S_noL, R.noL, Option.map, true_and, and_true, ge_iff_le, gt_iff_lt, implies_true, q_ite_t, q_ite_f, beq_iff_eq, bne_iff_ne, q_ne, Nat.reduceAdd, Nat.reducePow, Int.reducePow, Nat.reduceMul, Nat.reduceSub, Nat.reduceLeDiff, Nat.reduceLT, Nat.reduceEqDiff, Int.reduceNeg, Int.reduceLT, Int.reduceLE, Int.reduceEq, Int.reduceNe, Int.reduceAdd, Int.reduceSub, Int.reduceMul, Int.reduceToNat, Int.reduceBEq, Int.reduceBNe, slA, lsA, List.map_cons, List.map_nil, Blk.ren, S_ren, lay_ren, List.drop_zero, Cap.cl]
          · simp (config := { maxSteps := 10000000 }) only [EV1, EV2, EV3, EV4, EV5, EV6, addT, istep, lenR_sl, lenR_ns, lenR_es, pickR, putD, bin1R, un1R, slcR, bnd, capsOf, fillP, S_plain, V_plain, V.cells, S_known, V_known, C.v, blk, setL, setH, eqS, eq1, cmpS, cmp1, isNil, popTo, killT, setT, leT, V.below, C.below, S_below, R.below, V.val, C.val, S_val, R.val, R.takes, vals, shows, List.any_cons, List.any_nil, unnamed, V.kill, V.names, C.names, S_names, R.names, List.set, List.replicate, ↓q_cond_t, ↓q_cond_f, if_true, if_false, reduceCtorEq, rvals, rvC, result, C_known, V.noL, C.noL, S_noL, R.noL, Option.map, true_and, and_true, ge_iff_le, gt_iff_lt, implies_true, q_ite_t, q_ite_f, beq_iff_eq, bne_iff_ne, q_ne, Nat.reduceAdd, Nat.reducePow, Int.reducePow, Nat.reduceMul, Nat.reduceSub, Nat.reduceLeDiff, Nat.reduceLT, Nat.reduceEqDiff, Int.reduceNeg, Int.reduceLT, Int.reduceLE, Int.reduceEq, Int.reduceNe, Int.reduceAdd, Int.reduceSub, Int.reduceMul, Int.reduceToNat, Int.reduceBEq, Int.reduceBNe, slA, lsA, List.drop_zero]
          · simp (config := { maxSteps := 10000000 }) only [EV1, EV2, EV3, EV4, EV5, EV6, addT, istep, lenR_sl, lenR_ns, lenR_es, pickR, putD, bin1R, un1R, slcR, bnd, capsOf, fillP, S_plain, V_plain, V.cells, S_known, V_known, C.v, blk, setL, setH, eqS, eq1, cmpS, cmp1, isNil, popTo, killT, setT, leT, V.below, C.below, S_below, R.below, V.val, C.val, S_val, R.val, R.takes, vals, shows, List.any_cons, List.any_nil, unnamed, V.kill, V.names, C.names, S_names, R.names, List.set, List.replicate, ↓q_cond_t, ↓q_cond_f, if_true, if_false, reduceCtorEq, rvals, rvC, result, C_known, V.noL, C.noL, S_noL, R.noL, Option.map, true_and, and_true, ge_iff_le, gt_iff_lt, implies_true, q_ite_t, q_ite_f, beq_iff_eq, bne_iff_ne, q_ne, Nat.reduceAdd, Nat.reducePow, Int.reducePow, Nat.reduceMul, Nat.reduceSub, Nat.reduceLeDiff, Nat.reduceLT, Nat.reduceEqDiff, Int.reduceNeg, Int.reduceLT, Int.reduceLE, Int.reduceEq, Int.reduceNe, Int.reduceAdd, Int.reduceSub, Int.reduceMul, Int.reduceToNat, Int.reduceBEq, Int.reduceBNe, slA, local1T, setT, List.map_cons, List.map_nil, V.ren, S_ren, hpl, R.unl_0, R.unl_s]
          · simp (config := { maxSteps := 10000000 }) only [EV1, EV2, EV3, EV4, EV5, EV6, addT, istep, lenR_sl, lenR_ns, lenR_es, pickR, putD, bin1R, un1R, slcR, bnd, capsOf, fillP, S_plain, V_plain, V.cells, S_known, V_known, C.v, blk, setL, setH, eqS, eq1, cmpS, cmp1, isNil, popTo, killT, setT, leT, V.below, C.below, S_below, R.below, V.val, C.val, S_val, R.val, R.takes, vals, shows, List.any_cons, List.any_nil, unnamed, V.kill, V.names, C.names, S_names, R.names, List.set, List.replicate, ↓q_cond_t, ↓q_cond_f, if_true, if_false, reduceCtorEq, rvals, rvC, result, C_known, V.noL, C.noL, S_noL, R.noL, Option.map, true_and, and_true, ge_iff_le, gt_iff_lt, implies_true, q_ite_t, q_ite_f, beq_iff_eq, bne_iff_ne, q_ne, Nat.reduceAdd, Nat.reducePow, Int.reducePow, Nat.reduceMul, Nat.reduceSub, Nat.reduceLeDiff, Nat.reduceLT, Nat.reduceEqDiff, Int.reduceNeg, Int.reduceLT, Int.reduceLE, Int.reduceEq, Int.reduceNe, Int.reduceAdd, Int.reduceSub, Int.reduceMul, Int.reduceToNat, Int.reduceBEq, Int.reduceBNe, local1T, setT, hv3, hh2, hh3]
          · simp only [clean_cons, clean_nil, lay_vals, Bool.and_true]; rfl
end Go.Proofs.Ytdlloccodmdnnaa

/- Caps as arguments of a statement. -/
namespace Go.Proofs.Ytdlloccodmdnnaa
open Go.D
set_option linter.all false
set_option maxRecDepth 100000

abbrev CapT : List TY := [.int .i64, .int .i64, .int .i64, .int .i64, .int .i64, .int .i64, .int .i64, .int .i64, .int .i64, .int .i64, .int .i64]
theorem hasTs_cap {h : List Blk} {ts : List TY} {ss : List S} (H : hasTs h (CapT ++ ts) ss) : ∃ (c : Cap) (ss' : List S), ss = c.cl ++ ss' ∧ hasTs h ts ss' := by
  obtain ⟨_, _, rfl, ⟨a, rfl, _⟩, H0⟩ := hasTs_cons H
  obtain ⟨_, _, rfl, ⟨b, rfl, _⟩, H1⟩ := hasTs_cons H0
  obtain ⟨_, _, rfl, ⟨c, rfl, _⟩, H2⟩ := hasTs_cons H1
  obtain ⟨_, _, rfl, ⟨d, rfl, _⟩, H3⟩ := hasTs_cons H2
  obtain ⟨_, _, rfl, ⟨e, rfl, _⟩, H4⟩ := hasTs_cons H3
  obtain ⟨_, _, rfl, ⟨g, rfl, _⟩, H5⟩ := hasTs_cons H4
  obtain ⟨_, _, rfl, ⟨i, rfl, _⟩, H6⟩ := hasTs_cons H5
  obtain ⟨_, _, rfl, ⟨j, rfl, _⟩, H7⟩ := hasTs_cons H6
  obtain ⟨_, _, rfl, ⟨k, rfl, _⟩, H8⟩ := hasTs_cons H7
  obtain ⟨_, _, rfl, ⟨l, rfl, _⟩, H9⟩ := hasTs_cons H8
  obtain ⟨_, _, rfl, ⟨m, rfl, _⟩, H10⟩ := hasTs_cons H9
  exact ⟨⟨a, b, c, d, e, g, i, j, k, l, m⟩, _, rfl, H10⟩
theorem hasV_cap {h : List Blk} {v : V} (H : hasV h (true, CapT) v) : ∃ c : Cap, v = .agg c.cl := by
  obtain ⟨ss, rfl, H1⟩ := H
  obtain ⟨c, ss', rfl, H2⟩ := hasTs_cap (ts := []) H1
  obtain rfl := hasTs_nil H2
  exact ⟨c, by simp⟩
theorem u64_wf {n : Int} (h : (Lit.int .u64 n).wf = true) : u64 n := by
  have e : (decide ((0 : Int) ≤ n) && decide (n ≤ 18446744073709551615)) = true := h
  simp only [Bool.and_eq_true, decide_eq_true_eq] at e
  simp only [u64]; omega

end Go.Proofs.Ytdlloccodmdnnaa

/- CspaceLocal, CspaceDeeper, CspaceGuards, CspaceShort, CspaceMasks, CspaceResolves: for every input the law's Go function answers true, and its arguments read behind the call as before. No conditions. -/
namespace Go.Proofs.Ytdlloccodmdnnaa
open Go.D
set_option linter.all false
set_option maxRecDepth 100000

theorem lawC {h : List Blk} {x : Bool × List TY} {xs : List (Bool × List TY)} {us : List V} (H : hasVs h (x :: xs) us) : ∃ u vs, us = u :: vs ∧ hasV h x u ∧ hasVs h xs vs := by
  match us, H with
  | u :: vs, H => exact ⟨u, vs, rfl, H.1, H.2⟩
  | [], H => exact H.elim
theorem lawN {h : List Blk} {us : List V} (H : hasVs h [] us) : us = [] := by
  match us, H with
  | [], _ => rfl
  | _ :: _, H => exact H.elim
theorem i64_wf {n : Int} (h : (Lit.int .i64 n).wf = true) : -9223372036854775808 ≤ n ∧ n < 9223372036854775808 := by
  have e : (decide ((-9223372036854775808 : Int) ≤ n) && decide (n ≤ 9223372036854775807)) = true := h
  simp only [Bool.and_eq_true, decide_eq_true_eq] at e
  omega
abbrev LayT : List TY := .int .i64 :: CapT
theorem hasTs_lay {h : List Blk} {ss : List S} (H : hasTs h LayT ss) : ∃ o : Lay, ss = o.cl ∧ True := by
  obtain ⟨_, _, rfl, ⟨a, rfl, _⟩, H0⟩ := hasTs_cons H
  obtain ⟨c, _, rfl, H1⟩ := hasTs_cap (ts := []) H0
  obtain rfl := hasTs_nil H1
  exact ⟨⟨a, c⟩, by simp [Lay.cl], trivial⟩
theorem hasV_lays {h : List Blk} {v : V} (H : hasV h (false, [.slice LayT]) v) : ∃ (s : S) (L : List Lay), v = .s s ∧ IsArr Lay.cl h s L ∧ L.length ≤ 9223372036854775807 := by
  obtain ⟨s, L, rfl, e1, _, e3⟩ := hasV_slice (c := Lay.cl) (p := fun _ => True) (fun ss h => hasTs_lay h) H
  exact ⟨s, L, rfl, e1, by omega⟩
theorem masks_law : Law (FSpec.of masksG) [(true, CapT), (false, [.int .i64]), (false, [.int .i64])] := by
  intro h us H hc
  obtain ⟨_, _, _, rfl, H1, H2, H3⟩ := law3 H
  obtain ⟨c, rfl⟩ := hasV_cap H1
  obtain ⟨r, rfl, _⟩ := hasV_int H2
  obtain ⟨q, rfl, _⟩ := hasV_int H3
  exact rfl
theorem short_law : Law shortS [(false, [.slice LayT]), (true, CapT), (false, [.int .u64]), (false, [.int .i64])] := by
  intro h us H hc
  obtain ⟨_, _, rfl, H1, H⟩ := lawC H
  obtain ⟨_, _, rfl, H2, H⟩ := lawC H
  obtain ⟨_, _, rfl, H3, H⟩ := lawC H
  obtain ⟨_, _, rfl, H4, H⟩ := lawC H
  obtain rfl := lawN H
  obtain ⟨s, L, rfl, e1, e2⟩ := hasV_lays H1
  obtain ⟨c, rfl⟩ := hasV_cap H2
  obtain ⟨w, rfl, hw⟩ := hasV_int H3
  obtain ⟨d, rfl, _⟩ := hasV_int H4
  exact ⟨s, L, c, w, d, rfl, e1, e2, u64_wf hw, fun _ => rfl⟩
theorem resolves_law : Law resolvesS [(false, [.slice LayT]), (true, CapT), (false, [.int .u64]), (false, [.int .i64])] := by
  intro h us H hc
  obtain ⟨_, _, rfl, H1, H⟩ := lawC H
  obtain ⟨_, _, rfl, H2, H⟩ := lawC H
  obtain ⟨_, _, rfl, H3, H⟩ := lawC H
  obtain ⟨_, _, rfl, H4, H⟩ := lawC H
  obtain rfl := lawN H
  obtain ⟨s, L, rfl, e1, e2⟩ := hasV_lays H1
  obtain ⟨c, rfl⟩ := hasV_cap H2
  obtain ⟨w, rfl, hw⟩ := hasV_int H3
  obtain ⟨d, rfl, _⟩ := hasV_int H4
  exact ⟨s, L, c, w, d, rfl, e1, e2, u64_wf hw, fun _ => rfl⟩
theorem guards_law : Law guardsS [(false, [.slice LayT]), (true, CapT), (false, [.int .u64]), (false, [.int .i64]), (false, [.int .i64])] := by
  intro h us H hc
  obtain ⟨_, _, rfl, H1, H⟩ := lawC H
  obtain ⟨_, _, rfl, H2, H⟩ := lawC H
  obtain ⟨_, _, rfl, H3, H⟩ := lawC H
  obtain ⟨_, _, rfl, H4, H⟩ := lawC H
  obtain ⟨_, _, rfl, H5, H⟩ := lawC H
  obtain rfl := lawN H
  obtain ⟨s, L, rfl, e1, e2⟩ := hasV_lays H1
  obtain ⟨c, rfl⟩ := hasV_cap H2
  obtain ⟨w, rfl, hw⟩ := hasV_int H3
  obtain ⟨d, rfl, _⟩ := hasV_int H4
  obtain ⟨g, rfl, _⟩ := hasV_int H5
  exact ⟨s, L, c, w, d, g, rfl, e1, e2, u64_wf hw, fun _ => rfl⟩
theorem deeper_law : Law deeperS [(false, [.slice LayT]), (true, CapT), (false, [.int .u64]), (false, [.int .i64]), (false, [.int .i64]), (false, [.int .u64])] := by
  intro h us H hc
  obtain ⟨_, _, rfl, H1, H⟩ := lawC H
  obtain ⟨_, _, rfl, H2, H⟩ := lawC H
  obtain ⟨_, _, rfl, H3, H⟩ := lawC H
  obtain ⟨_, _, rfl, H4, H⟩ := lawC H
  obtain ⟨_, _, rfl, H5, H⟩ := lawC H
  obtain ⟨_, _, rfl, H6, H⟩ := lawC H
  obtain rfl := lawN H
  obtain ⟨s, L, rfl, e1, e2⟩ := hasV_lays H1
  obtain ⟨c, rfl⟩ := hasV_cap H2
  obtain ⟨w, rfl, hw⟩ := hasV_int H3
  obtain ⟨d, rfl, hd⟩ := hasV_int H4
  obtain ⟨r, rfl, _⟩ := hasV_int H5
  obtain ⟨t, rfl, ht⟩ := hasV_int H6
  exact ⟨s, L, c, w, d, r, t, rfl, e1, e2, u64_wf hw, u64_wf ht, (i64_wf hd).1, (i64_wf hd).2, fun _ => rfl⟩
theorem local_law : Law localS [(false, [.slice LayT]), (true, CapT), (false, [.int .u64]), (false, [.int .i64]), (false, [.slice LayT])] := by
  intro h us H hc
  obtain ⟨_, _, rfl, H1, H⟩ := lawC H
  obtain ⟨_, _, rfl, H2, H⟩ := lawC H
  obtain ⟨_, _, rfl, H3, H⟩ := lawC H
  obtain ⟨_, _, rfl, H4, H⟩ := lawC H
  obtain ⟨_, _, rfl, H5, H⟩ := lawC H
  obtain rfl := lawN H
  obtain ⟨s, L, rfl, e1, e2⟩ := hasV_lays H1
  obtain ⟨c, rfl⟩ := hasV_cap H2
  obtain ⟨w, rfl, hw⟩ := hasV_int H3
  obtain ⟨d, rfl, _⟩ := hasV_int H4
  obtain ⟨s2, M, rfl, f1, f2⟩ := hasV_lays H5
  exact ⟨s, L, c, w, d, s2, M, rfl, e1, e2, f1, f2, u64_wf hw, fun _ => rfl⟩
theorem cspaceLocal_row : RowOk Try.prog 3 Try.f3 Rows.cspaceLocalSpec [(false, [.slice LayT]), (true, CapT), (false, [.int .u64]), (false, [.int .i64]), (false, [.slice LayT])] where
  own := own
  noInit := by kernel_rfl
  isf := Try.func3
  laid := laid
  rowed := rowed
  full := full
  params := by kernel_rfl
  vars := rfl
  ret := ⟨_, rfl, by kernel_rfl⟩
  spec := fun H ds e => by
    match ds, e with
    | [_, _, _, _, _], _ => rfl
  tys := ⟨20, by kernel_rfl⟩
theorem cspaceLocal_holds : Rows.CspaceLocalSaid :=
  OpenClaim.holds_of_wide 3 Try.f3 rfl rfl rfl rfl rfl rfl rfl ⟨rfl, rfl, rfl, rfl, rfl⟩ rfl rfl rfl rfl rfl (by kernel_rfl) Try.func3 (by kernel_rfl)
    (of_decide_eq_true (by kernel_rfl)) (by unfold Func.isWrapper; first | (rw [if_pos (by decide +kernel)]; kernel_rfl) | (rw [if_neg (by decide +kernel)]; exact ⟨rfl, rfl⟩))
    (fun os started H enc _ => cspaceLocal_row.lifted (C := Try.checked) local_snd local_law started (ChangeSpec.witness6 (enc := enc) (C := Try.checked) false ⟨#[], #[.slice none 0 0, .agg #[.int .i64 0, .int .i64 0, .int .i64 0, .int .i64 0, .int .i64 0, .int .i64 0, .int .i64 0, .int .i64 0, .int .i64 0, .int .i64 0, .int .i64 0], .int .u64 0, .int .i64 0, .slice none 0 0], []⟩ 8 (by kernel_rfl) (by kernel_rfl) (by kernel_rfl) (by kernel_rfl)))
theorem cspaceDeeper_row : RowOk Try.prog 4 Try.f4 Rows.cspaceDeeperSpec [(false, [.slice LayT]), (true, CapT), (false, [.int .u64]), (false, [.int .i64]), (false, [.int .i64]), (false, [.int .u64])] where
  own := own
  noInit := by kernel_rfl
  isf := Try.func4
  laid := laid
  rowed := rowed
  full := full
  params := by kernel_rfl
  vars := rfl
  ret := ⟨_, rfl, by kernel_rfl⟩
  spec := fun H ds e => by
    match ds, e with
    | [_, _, _, _, _, _], _ => rfl
  tys := ⟨20, by kernel_rfl⟩
theorem cspaceDeeper_holds : Rows.CspaceDeeperSaid :=
  OpenClaim.holds_of_wide 4 Try.f4 rfl rfl rfl rfl rfl rfl rfl ⟨rfl, rfl, rfl, rfl, rfl⟩ rfl rfl rfl rfl rfl (by kernel_rfl) Try.func4 (by kernel_rfl)
    (of_decide_eq_true (by kernel_rfl)) (by unfold Func.isWrapper; first | (rw [if_pos (by decide +kernel)]; kernel_rfl) | (rw [if_neg (by decide +kernel)]; exact ⟨rfl, rfl⟩))
    (fun os started H enc _ => cspaceDeeper_row.lifted (C := Try.checked) deeper_snd deeper_law started (ChangeSpec.witness6 (enc := enc) (C := Try.checked) false ⟨#[], #[.slice none 0 0, .agg #[.int .i64 0, .int .i64 0, .int .i64 0, .int .i64 0, .int .i64 0, .int .i64 0, .int .i64 0, .int .i64 0, .int .i64 0, .int .i64 0, .int .i64 0], .int .u64 0, .int .i64 0, .int .i64 0, .int .u64 0], []⟩ 8 (by kernel_rfl) (by kernel_rfl) (by kernel_rfl) (by kernel_rfl)))
theorem cspaceGuards_row : RowOk Try.prog 5 Try.f5 Rows.cspaceGuardsSpec [(false, [.slice LayT]), (true, CapT), (false, [.int .u64]), (false, [.int .i64]), (false, [.int .i64])] where
  own := own
  noInit := by kernel_rfl
  isf := Try.func5
  laid := laid
  rowed := rowed
  full := full
  params := by kernel_rfl
  vars := rfl
  ret := ⟨_, rfl, by kernel_rfl⟩
  spec := fun H ds e => by
    match ds, e with
    | [_, _, _, _, _], _ => rfl
  tys := ⟨20, by kernel_rfl⟩
theorem cspaceGuards_holds : Rows.CspaceGuardsSaid :=
  OpenClaim.holds_of_wide 5 Try.f5 rfl rfl rfl rfl rfl rfl rfl ⟨rfl, rfl, rfl, rfl, rfl⟩ rfl rfl rfl rfl rfl (by kernel_rfl) Try.func5 (by kernel_rfl)
    (of_decide_eq_true (by kernel_rfl)) (by unfold Func.isWrapper; first | (rw [if_pos (by decide +kernel)]; kernel_rfl) | (rw [if_neg (by decide +kernel)]; exact ⟨rfl, rfl⟩))
    (fun os started H enc _ => cspaceGuards_row.lifted (C := Try.checked) guards_snd guards_law started (ChangeSpec.witness6 (enc := enc) (C := Try.checked) false ⟨#[], #[.slice none 0 0, .agg #[.int .i64 0, .int .i64 0, .int .i64 0, .int .i64 0, .int .i64 0, .int .i64 0, .int .i64 0, .int .i64 0, .int .i64 0, .int .i64 0, .int .i64 0], .int .u64 0, .int .i64 0, .int .i64 0], []⟩ 8 (by kernel_rfl) (by kernel_rfl) (by kernel_rfl) (by kernel_rfl)))
theorem cspaceShort_row : RowOk Try.prog 6 Try.f6 Rows.cspaceShortSpec [(false, [.slice LayT]), (true, CapT), (false, [.int .u64]), (false, [.int .i64])] where
  own := own
  noInit := by kernel_rfl
  isf := Try.func6
  laid := laid
  rowed := rowed
  full := full
  params := by kernel_rfl
  vars := rfl
  ret := ⟨_, rfl, by kernel_rfl⟩
  spec := fun H ds e => by
    match ds, e with
    | [_, _, _, _], _ => rfl
  tys := ⟨20, by kernel_rfl⟩
theorem cspaceShort_holds : Rows.CspaceShortSaid :=
  OpenClaim.holds_of_wide 6 Try.f6 rfl rfl rfl rfl rfl rfl rfl ⟨rfl, rfl, rfl, rfl, rfl⟩ rfl rfl rfl rfl rfl (by kernel_rfl) Try.func6 (by kernel_rfl)
    (of_decide_eq_true (by kernel_rfl)) (by unfold Func.isWrapper; first | (rw [if_pos (by decide +kernel)]; kernel_rfl) | (rw [if_neg (by decide +kernel)]; exact ⟨rfl, rfl⟩))
    (fun os started H enc _ => cspaceShort_row.lifted (C := Try.checked) short_snd short_law started (ChangeSpec.witness6 (enc := enc) (C := Try.checked) false ⟨#[], #[.slice none 0 0, .agg #[.int .i64 0, .int .i64 0, .int .i64 0, .int .i64 0, .int .i64 0, .int .i64 0, .int .i64 0, .int .i64 0, .int .i64 0, .int .i64 0, .int .i64 0], .int .u64 0, .int .i64 0], []⟩ 8 (by kernel_rfl) (by kernel_rfl) (by kernel_rfl) (by kernel_rfl)))
theorem cspaceMasks_row : RowOk Try.prog 7 Try.f7 Rows.cspaceMasksSpec [(true, CapT), (false, [.int .i64]), (false, [.int .i64])] where
  own := own
  noInit := by kernel_rfl
  isf := Try.func7
  laid := laid
  rowed := rowed
  full := full
  params := by kernel_rfl
  vars := rfl
  ret := ⟨_, rfl, by kernel_rfl⟩
  spec := fun H ds e => by
    match ds, e with
    | [_, _, _], _ => rfl
  tys := ⟨20, by kernel_rfl⟩
theorem cspaceMasks_holds : Rows.CspaceMasksSaid :=
  OpenClaim.holds_of_wide 7 Try.f7 rfl rfl rfl rfl rfl rfl rfl ⟨rfl, rfl, rfl, rfl, rfl⟩ rfl rfl rfl rfl rfl (by kernel_rfl) Try.func7 (by kernel_rfl)
    (of_decide_eq_true (by kernel_rfl)) (by unfold Func.isWrapper; first | (rw [if_pos (by decide +kernel)]; kernel_rfl) | (rw [if_neg (by decide +kernel)]; exact ⟨rfl, rfl⟩))
    (fun os started H enc _ => cspaceMasks_row.lifted (C := Try.checked) masks_snd masks_law started (ChangeSpec.witness6 (enc := enc) (C := Try.checked) false ⟨#[], #[.agg #[.int .i64 0, .int .i64 0, .int .i64 0, .int .i64 0, .int .i64 0, .int .i64 0, .int .i64 0, .int .i64 0, .int .i64 0, .int .i64 0, .int .i64 0], .int .i64 0, .int .i64 0], []⟩ 8 (by kernel_rfl) (by kernel_rfl) (by kernel_rfl) (by kernel_rfl)))
theorem cspaceResolves_row : RowOk Try.prog 8 Try.f8 Rows.cspaceResolvesSpec [(false, [.slice LayT]), (true, CapT), (false, [.int .u64]), (false, [.int .i64])] where
  own := own
  noInit := by kernel_rfl
  isf := Try.func8
  laid := laid
  rowed := rowed
  full := full
  params := by kernel_rfl
  vars := rfl
  ret := ⟨_, rfl, by kernel_rfl⟩
  spec := fun H ds e => by
    match ds, e with
    | [_, _, _, _], _ => rfl
  tys := ⟨20, by kernel_rfl⟩
theorem cspaceResolves_holds : Rows.CspaceResolvesSaid :=
  OpenClaim.holds_of_wide 8 Try.f8 rfl rfl rfl rfl rfl rfl rfl ⟨rfl, rfl, rfl, rfl, rfl⟩ rfl rfl rfl rfl rfl (by kernel_rfl) Try.func8 (by kernel_rfl)
    (of_decide_eq_true (by kernel_rfl)) (by unfold Func.isWrapper; first | (rw [if_pos (by decide +kernel)]; kernel_rfl) | (rw [if_neg (by decide +kernel)]; exact ⟨rfl, rfl⟩))
    (fun os started H enc _ => cspaceResolves_row.lifted (C := Try.checked) resolves_snd resolves_law started (ChangeSpec.witness6 (enc := enc) (C := Try.checked) false ⟨#[], #[.slice none 0 0, .agg #[.int .i64 0, .int .i64 0, .int .i64 0, .int .i64 0, .int .i64 0, .int .i64 0, .int .i64 0, .int .i64 0, .int .i64 0, .int .i64 0, .int .i64 0], .int .u64 0, .int .i64 0], []⟩ 8 (by kernel_rfl) (by kernel_rfl) (by kernel_rfl) (by kernel_rfl)))
end Go.Proofs.Ytdlloccodmdnnaa

