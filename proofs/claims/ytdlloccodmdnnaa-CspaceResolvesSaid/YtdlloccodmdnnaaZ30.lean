/- Law 10: CspaceLocal: the second list. -/
import Derived.Test.YtdlloccodmdnnaaZ10
import Derived.Test.YtdlloccodmdnnaaZ29
/- Law 10: CspaceLocal: the walk behind its lists. -/
namespace Go.Proofs.Ytdlloccodmdnnaa
open Go.D
set_option linter.all false
set_option maxRecDepth 100000
set_option maxHeartbeats 8000000

section
variable {h X : List Blk} {A B C D E F : Blk} {m : M}
theorem at6_is : IsMem (h ++ (A :: B :: C :: D :: E :: F :: MB (h.length + 7) m :: MW m :: X)) (h.length + 6) (h.length + 7) m := by
  refine ⟨by omega, ?_, ?_⟩
  · rw [app_getn]; rfl
  · rw [app_getn]; rfl
theorem at6_set (m' : M) : setM (h ++ (A :: B :: C :: D :: E :: F :: MB (h.length + 7) m :: MW m :: X)) (h.length + 6) (h.length + 7) m' = h ++ (A :: B :: C :: D :: E :: F :: MB (h.length + 7) m' :: MW m' :: X) := by
  simp only [setM]
  rw [app_setn, app_setn]; rfl
theorem memF_6 {f : Nat → M → (M → List Blk) → List V → Res} {rest : List V} : memF f (.s (.p (.g (h.length + 6)) 0) :: rest) (h ++ (A :: B :: C :: D :: E :: F :: MB (h.length + 7) m :: MW m :: X)) = f (h.length + 7) m (fun m => h ++ (A :: B :: C :: D :: E :: F :: MB (h.length + 7) m :: MW m :: X)) rest := by
  rw [memF_eq at6_is, funext at6_set]
end
theorem ends_wrap {c : Cap} (h1 : 0 ≤ c.bits ∧ c.bits ≤ 31) (h2 : 0 ≤ c.obj ∧ c.obj ≤ 65535) : IntKind.i64.wrap (4 * 2 ^ min c.bits.toNat IntKind.i64.bits) = 4 * 2 ^ c.bits.toNat ∧ IntKind.i64.wrap (c.obj + 4 * 2 ^ c.bits.toNat) = c.ends := by
  have key : ∀ k : Fin 32, IntKind.i64.wrap (4 * 2 ^ min k.val IntKind.i64.bits) = 4 * 2 ^ k.val ∧ (4 : Int) * 2 ^ k.val ≤ 8589934592 ∧ (0 : Int) ≤ 4 * 2 ^ k.val := by decide +kernel
  have := key ⟨c.bits.toNat, by omega⟩
  simp only at this
  exact ⟨this.1, wrap64 (by omega) (by omega)⟩
/-- The temporaries when both lists are there. -/
def localT (w d : Int) (q : Nat) (x y : S) : List V := setT [(2, .s (.i .u64 w)), (3, .s (.i .i64 d)), (6, .s (.p (.g q) 0)), (11, .s (.b true)), (12, .s x), (16, .s y)] (List.replicate 174 (.s .u))
theorem local_end2 {n0 : Nat} {K : V → List Blk → Prop} {H : List Blk} {q : Nat} {x y : S} {low both : List Lay} {c : Cap} {w d : Int} (hH : clean H.length H = true) (hq : H[q]? = some ⟨.rw, c.cl, 11⟩) (h1 : IsArr Lay.cl H x low) (h2 : IsArr Lay.cl H y both) (l1 : low.length ≤ 50) (l2 : both.length ≤ 90) (hu : u64 w)
    (hs : rightB c = true → c.ty = 2 → c.ends ≤ 2048 → (rsl false (laidW low).fresh c w d).same (rsl false (laidW both).fresh c w d)) (hK : ∀ h', K (.s (.b true)) h') :
    swp T10.Γ n0 (finP df3.res K) [.c (DC.after 6 df3.body)] ⟨localT w d q x y, [], H⟩ := by
  have hkn1 := h1.sl.known
  have hnl1 := h1.sl.noL
  have hkn2 := h2.sl.known
  have hnl2 := h2.sl.noL
  have e1 := arrOf_eq h1
  have e2 : ∀ X, arrOf Lay.cl (H ++ X) y = some both := fun X => arrOf_eq h2.app
  have hqx : ∀ X, (H ++ X)[q]? = some ⟨.rw, c.cl, 11⟩ := fun X => by rw [app_getl (List.getElem?_eq_some_iff.1 hq).1, hq]
  have g1 : low.length ≤ 9223372036854775807 := by omega
  have g2 : both.length ≤ 9223372036854775807 := by omega
  obtain ⟨r1, hr1⟩ : ∃ r, laidW low = r := ⟨_, rfl⟩
  obtain ⟨m1, hm1⟩ : ∃ m, r1.fresh = m := ⟨_, rfl⟩
  obtain ⟨r2, hr2⟩ : ∃ r, laidW both = r := ⟨_, rfl⟩
  obtain ⟨m2, hm2⟩ : ∃ m, r2.fresh = m := ⟨_, rfl⟩
  rw [hr1, hm1, hr2, hm2] at hs
  simp only [Cap.cl] at hqx
  simp only [DC.after, df3]
  cases hr : rightB c with
  | false =>
    refine run_sound (Tab.ok_Γ _) 400 _ _ _ _ ?_
    simp (config := { maxSteps := 10000000 }) only [EV1, EV2, EV3, EV4, EV5, EV6, addT, istep, lenR_sl, lenR_ns, lenR_es, pickR, putD, bin1R, un1R, slcR, bnd, capsOf, fillP, S_plain, V_plain, V.cells, S_known, V_known, C.v, blk, setL, setH, eqS, eq1, cmpS, cmp1, isNil, popTo, killT, setT, leT, V.below, C.below, S_below, R.below, V.val, C.val, S_val, R.val, R.takes, vals, shows, List.any_cons, List.any_nil, unnamed, V.kill, V.names, C.names, S_names, R.names, List.set, List.replicate, ↓q_cond_t, ↓q_cond_f, if_true, if_false, reduceCtorEq, rvals, rvC, result, C_known, V.noL, C.noL, S_noL, R.noL, Option.map, true_and, and_true, ge_iff_le, gt_iff_lt, implies_true, q_ite_t, q_ite_f, beq_iff_eq, bne_iff_ne, q_ne, Nat.reduceAdd, Nat.reducePow, Int.reducePow, Nat.reduceMul, Nat.reduceSub, Nat.reduceLeDiff, Nat.reduceLT, Nat.reduceEqDiff, Int.reduceNeg, Int.reduceLT, Int.reduceLE, Int.reduceEq, Int.reduceNe, Int.reduceAdd, Int.reduceSub, Int.reduceMul, Int.reduceToNat, Int.reduceBEq, Int.reduceBNe, localT, setT, T10, laidG, hkn1, hnl1, e1, g1, hr1, hm1, hkn2, hnl2, e2, g2, hr2, hm2, app_len, nnn, hqx, rightG, capF, cap_eta, hr, Cap.cl, sub, put, fillP, List.take_succ_cons, List.take_zero, List.drop_zero]
    exact hK _
  | true =>
  by_cases ht : c.ty = 2
  case neg =>
    have ht' : (c.ty != 2) = true := by simpa using ht
    refine run_sound (Tab.ok_Γ _) 400 _ _ _ _ ?_
    simp (config := { maxSteps := 10000000 }) only [EV1, EV2, EV3, EV4, EV5, EV6, addT, istep, lenR_sl, lenR_ns, lenR_es, pickR, putD, bin1R, un1R, slcR, bnd, capsOf, fillP, S_plain, V_plain, V.cells, S_known, V_known, C.v, blk, setL, setH, eqS, eq1, cmpS, cmp1, isNil, popTo, killT, setT, leT, V.below, C.below, S_below, R.below, V.val, C.val, S_val, R.val, R.takes, vals, shows, List.any_cons, List.any_nil, unnamed, V.kill, V.names, C.names, S_names, R.names, List.set, List.replicate, ↓q_cond_t, ↓q_cond_f, if_true, if_false, reduceCtorEq, rvals, rvC, result, C_known, V.noL, C.noL, S_noL, R.noL, Option.map, true_and, and_true, ge_iff_le, gt_iff_lt, implies_true, q_ite_t, q_ite_f, beq_iff_eq, bne_iff_ne, q_ne, Nat.reduceAdd, Nat.reducePow, Int.reducePow, Nat.reduceMul, Nat.reduceSub, Nat.reduceLeDiff, Nat.reduceLT, Nat.reduceEqDiff, Int.reduceNeg, Int.reduceLT, Int.reduceLE, Int.reduceEq, Int.reduceNe, Int.reduceAdd, Int.reduceSub, Int.reduceMul, Int.reduceToNat, Int.reduceBEq, Int.reduceBNe, localT, setT, T10, laidG, hkn1, hnl1, e1, g1, hr1, hm1, hkn2, hnl2, e2, g2, hr2, hm2, app_len, nnn, hqx, rightG, capF, cap_eta, hr, ht', Cap.cl, sub, put, fillP, List.take_succ_cons, List.take_zero, List.drop_zero]
    exact hK _
  have ht' : (c.ty != 2) = false := by simpa using ht
  have hb := right_bounds hr
  obtain ⟨v1, v2⟩ := ends_wrap hb.bits hb.obj
  have b0 := hb.bits.1
  by_cases he : c.ends ≤ 2048
  case neg =>
    have he' : 2048 < c.ends := by omega
    refine run_sound (Tab.ok_Γ _) 400 _ _ _ _ ?_
    simp (config := { maxSteps := 10000000 }) only [EV1, EV2, EV3, EV4, EV5, EV6, addT, istep, lenR_sl, lenR_ns, lenR_es, pickR, putD, bin1R, un1R, slcR, bnd, capsOf, fillP, S_plain, V_plain, V.cells, S_known, V_known, C.v, blk, setL, setH, eqS, eq1, cmpS, cmp1, isNil, popTo, killT, setT, leT, V.below, C.below, S_below, R.below, V.val, C.val, S_val, R.val, R.takes, vals, shows, List.any_cons, List.any_nil, unnamed, V.kill, V.names, C.names, S_names, R.names, List.set, List.replicate, ↓q_cond_t, ↓q_cond_f, if_true, if_false, reduceCtorEq, rvals, rvC, result, C_known, V.noL, C.noL, S_noL, R.noL, Option.map, true_and, and_true, ge_iff_le, gt_iff_lt, implies_true, q_ite_t, q_ite_f, beq_iff_eq, bne_iff_ne, q_ne, Nat.reduceAdd, Nat.reducePow, Int.reducePow, Nat.reduceMul, Nat.reduceSub, Nat.reduceLeDiff, Nat.reduceLT, Nat.reduceEqDiff, Int.reduceNeg, Int.reduceLT, Int.reduceLE, Int.reduceEq, Int.reduceNe, Int.reduceAdd, Int.reduceSub, Int.reduceMul, Int.reduceToNat, Int.reduceBEq, Int.reduceBNe, localT, setT, T10, laidG, hkn1, hnl1, e1, g1, hr1, hm1, hkn2, hnl2, e2, g2, hr2, hm2, app_len, nnn, hqx, rightG, capF, cap_eta, hr, ht', b0, v1, v2, he', Cap.cl, sub, put, fillP, List.take_succ_cons, List.take_zero, List.drop_zero]
    exact hK _
  have he' : ¬ 2048 < c.ends := by omega
  obtain ⟨s1, s2, s3⟩ := hs hr ht he
  obtain ⟨p, hp⟩ : ∃ p, rsl false m1 c w d = p := ⟨_, rfl⟩
  obtain ⟨o, ho⟩ : ∃ p, rsl false m2 c w d = p := ⟨_, rfl⟩
  rw [hp, ho] at s1 s2 s3
  refine run_sound (Tab.ok_Γ _) 400 _ _ _ _ ?_
  simp (config := { maxSteps := 10000000 }) only [EV1, EV2, EV3, EV4, EV5, EV6, addT, istep, lenR_sl, lenR_ns, lenR_es, pickR, putD, bin1R, un1R, slcR, bnd, capsOf, fillP, S_plain, V_plain, V.cells, S_known, V_known, C.v, blk, setL, setH, eqS, eq1, cmpS, cmp1, isNil, popTo, killT, setT, leT, V.below, C.below, S_below, R.below, V.val, C.val, S_val, R.val, R.takes, vals, shows, List.any_cons, List.any_nil, unnamed, V.kill, V.names, C.names, S_names, R.names, List.set, List.replicate, ↓q_cond_t, ↓q_cond_f, if_true, if_false, reduceCtorEq, rvals, rvC, result, C_known, V.noL, C.noL, S_noL, R.noL, Option.map, true_and, and_true, ge_iff_le, gt_iff_lt, implies_true, q_ite_t, q_ite_f, beq_iff_eq, bne_iff_ne, q_ne, Nat.reduceAdd, Nat.reducePow, Int.reducePow, Nat.reduceMul, Nat.reduceSub, Nat.reduceLeDiff, Nat.reduceLT, Nat.reduceEqDiff, Int.reduceNeg, Int.reduceLT, Int.reduceLE, Int.reduceEq, Int.reduceNe, Int.reduceAdd, Int.reduceSub, Int.reduceMul, Int.reduceToNat, Int.reduceBEq, Int.reduceBNe, localT, setT, T10, laidG, hkn1, hnl1, e1, g1, hr1, hm1, hkn2, hnl2, e2, g2, hr2, hm2, app_len, nnn, hqx, rightG, rslG, memF_2, memF_6, rslM, capF, cap_eta, hu, hr, ht', b0, v1, v2, he', hp, ho, RW.v, s1, s2, s3, Cap.cl, sub, put, fillP, List.take_succ_cons, List.take_zero, List.drop_zero]
  exact hK _
end Go.Proofs.Ytdlloccodmdnnaa

/- Law 10: CspaceLocal: the second list. -/
namespace Go.Proofs.Ytdlloccodmdnnaa
open Go.D
set_option linter.all false
set_option maxRecDepth 100000
set_option maxHeartbeats 8000000

section
variable (L : List Lay)
theorem lay_all {p : S → Bool} (hp : ∀ k x, p (.i k x) = true) : (arr Lay.cl L).all p = true := by
  rw [arr_all, List.all_eq_true]
  intro x _
  simp [Lay.cl, Cap.cl, hp]
theorem lay_known : known (arr Lay.cl L) = true := by unfold known; exact lay_all L fun _ _ => rfl
theorem lay_vals (n k : Nat) : vals n k (arr Lay.cl L) = true := by unfold vals; exact lay_all L fun _ _ => rfl
theorem lay_below (n : Nat) : (arr Lay.cl L).all (S.below n) = true := lay_all L fun _ _ => rfl
theorem lay_names (n : Nat) : (arr Lay.cl L).all (fun s => !s.names n) = true := lay_all L fun _ _ => rfl
theorem lay_valall (n k : Nat) : (arr Lay.cl L).all (S.val n k) = true := lay_all L fun _ _ => rfl
theorem lay_ren (ρ : R → R) : (arr Lay.cl L).map (S.ren ρ) = arr Lay.cl L := by
  induction L with
  | nil => rfl
  | cons x L ih => simp only [arr, List.map_append, ih]; rfl
theorem lay_len : (arr Lay.cl L).length = L.length * 12 := arr_length Lay.cl_len L
end
theorem lay_snoc (L : List Lay) (x : Lay) : arr Lay.cl (L ++ [x]) = arr Lay.cl L ++ x.cl := by rw [arr_append]; simp [arr]
theorem lay_nil : arr Lay.cl [] = [] := by rfl
/-- The cells that such a slice shows. -/
theorem IsArr.shows {h : List Blk} {s : S} {L : List Lay} (H : IsArr Lay.cl h s L) (ls : List Blk) : shows ls h 12 s = some (L.length, arr Lay.cl L) := by
  rcases H with ⟨rfl | ⟨a, c, rfl⟩, rfl⟩ | ⟨j, c, st, room, rfl, e1, e2⟩
  · rfl
  · rfl
  · simp only [D.shows, blk, e1]
    have hle : ¬ (arr Lay.cl L).length < 0 + L.length * 12 := by rw [lay_len]; omega
    have hsub : sub (arr Lay.cl L) 0 (L.length * 12) = arr Lay.cl L := by simp only [sub, List.drop_zero]; rw [← lay_len, List.take_length]
    by_cases h0 : L.length = 0
    · have : L = [] := List.eq_nil_of_length_eq_zero h0
      subst this
      by_cases hd : st = .dead
      · rw [if_pos (.inl hd)]; rfl
      · rw [if_neg (by simp [hd]), hsub]
    · rw [if_neg (by simp only [not_or]; exact ⟨e2 h0, hle⟩), hsub]
def local1T (w d : Int) (q : Nat) (s2 x : S) : List V := setT [(2, .s (.i .u64 w)), (3, .s (.i .i64 d)), (4, .s s2), (6, .s (.p (.g q) 0)), (11, .s (.b true)), (12, .s x)] (List.replicate 174 (.s .u))
theorem local_end1 {n0 : Nat} {K : V → List Blk → Prop} {H : List Blk} {q : Nat} {s2 x : S} {low more : List Lay} {c : Cap} {w d : Int} (hn0 : n0 ≤ H.length) (hH : clean H.length H = true) (hq : H[q]? = some ⟨.rw, c.cl, 11⟩) (h1 : IsArr Lay.cl H x low) (h2 : IsArr Lay.cl H s2 more) (l1 : low.length ≤ 50) (l2 : more.length ≤ 9223372036854775807) (hu : u64 w)
    (hlow : ∀ x, x ∈ low → x.low) (hK : ∀ h', K (.s (.b true)) h') :
    swp T10.Γ n0 (finP df3.res K) [.c (DC.after 4 df3.body)] ⟨local1T w d q s2 x, [], H⟩ := by
  have hlen2 := fun ls h' => h2.sl.len (ls := ls) (h := h')
  have hlen1 := fun ls h' => h1.sl.len (ls := ls) (h := h')
  have hsh := fun ls => h1.shows ls
  have hk1 := lay_known low
  have hn1 := lay_names low
  have hv1 := lay_valall low
  have hb1 : ∀ k, S.below k x = true := h1.sl.below
  have hb2 : ∀ k, S.below k s2 = true := h2.sl.below
  have hnm1 := fun k => h1.sl.names k
  have hnm2 := fun k => h2.sl.names k
  have hvs1 : ∀ j k, S.val (H.length + j) k x = true := fun j k => h1.sl.val (by omega)
  have hvs2 : ∀ j k, S.val (H.length + j) k s2 = true := fun j k => h2.sl.val (by omega)
  have hpl : ∀ d, s2.ren (R.unl H.length d) = s2 ∧ x.ren (R.unl H.length d) = x := fun d => by
    have : ∀ (s : S) (n : Nat), IsSl H.length s n → s.ren (R.unl H.length d) = s := fun s n hs => by
      rcases hs with ⟨rfl, _⟩ | ⟨a, c, rfl, _⟩ | ⟨j, o, c, rfl, hj⟩
      · rfl
      · rfl
      · simp only [S.ren, R.unl_lt hj]
    exact ⟨this s2 _ h2.sl, this x _ h1.sl⟩
  have hby : low.length * 96 ≤ 140737488355328 := by omega
  refine cut_at 2 ?_
  simp only [DC.after, df3]
  refine run_sound (Tab.ok_Γ _) 200 _ _ _ _ ?_
  simp (config := { maxSteps := 10000000 }) only [EV1, EV2, EV3, EV4, EV5, EV6, addT, istep, lenR_sl, lenR_ns, lenR_es, pickR, putD, bin1R, un1R, slcR, bnd, capsOf, fillP, S_plain, V_plain, V.cells, S_known, V_known, C.v, blk, setL, setH, eqS, eq1, cmpS, cmp1, isNil, popTo, killT, setT, leT, V.below, C.below, S_below, R.below, V.val, C.val, S_val, R.val, R.takes, vals, shows, List.any_cons, List.any_nil, unnamed, V.kill, V.names, C.names, S_names, R.names, List.set, List.replicate, ↓q_cond_t, ↓q_cond_f, if_true, if_false, reduceCtorEq, rvals, rvC, result, C_known, V.noL, C.noL, S_noL, R.noL, Option.map, true_and, and_true, ge_iff_le, gt_iff_lt, implies_true, q_ite_t, q_ite_f, beq_iff_eq, bne_iff_ne, q_ne, Nat.reduceAdd, Nat.reducePow, Int.reducePow, Nat.reduceMul, Nat.reduceSub, Nat.reduceLeDiff, Nat.reduceLT, Nat.reduceEqDiff, Int.reduceNeg, Int.reduceLT, Int.reduceLE, Int.reduceEq, Int.reduceNe, Int.reduceAdd, Int.reduceSub, Int.reduceMul, Int.reduceToNat, Int.reduceBEq, Int.reduceBNe, local1T, setT, ↓hsh, hk1, hn1, hv1, hnm1, hnm2, List.nil_append, put, fillP]
  refine ⟨hby, fun c1 hc1 => ?_⟩
  refine loop_rule (α := Nat × List Lay × Nat) (79 :: 81 :: [16, 17, 82, 83, 84, 85, 86, 87, 88, 89, 90, 91, 92, 93, 94, 95, 96, 97, 98, 99, 100, 101, 102, 103, 104]) (fun x => [(16, .s (.sl (.l 0) 0 (low ++ x.2.1).length x.2.2)), (17, .s (.i .i64 x.1))]) (fun x => [⟨.rw, arr Lay.cl (low ++ x.2.1), x.2.2 * 12⟩]) (fun _ => H)
    (fun x => x.1 ≤ more.length ∧ x.1 ≤ 40 ∧ x.2.1.length ≤ x.1 ∧ (∀ y, y ∈ x.2.1 → 2048 ≤ y.at_) ∧ (low ++ x.2.1).length ≤ x.2.2) (fun x => more.length - x.1) (0, [], c1) ⟨Nat.zero_le _, Nat.zero_le _, Nat.le_refl _, (by intro y hy; simp at hy), by simpa using hc1⟩ ?_ ?_
  · refine Wk.same (by simp only [List.append_nil]) rfl ?_
    simp (config := { maxSteps := 10000000 }) only [EV1, EV2, EV3, EV4, EV5, EV6, addT, istep, lenR_sl, lenR_ns, lenR_es, pickR, putD, bin1R, un1R, slcR, bnd, capsOf, fillP, S_plain, V_plain, V.cells, S_known, V_known, C.v, blk, setL, setH, eqS, eq1, cmpS, cmp1, isNil, popTo, killT, setT, leT, V.below, C.below, S_below, R.below, V.val, C.val, S_val, R.val, R.takes, vals, shows, List.any_cons, List.any_nil, unnamed, V.kill, V.names, C.names, S_names, R.names, List.set, List.replicate, ↓q_cond_t, ↓q_cond_f, if_true, if_false, reduceCtorEq, rvals, rvC, result, C_known, V.noL, C.noL, S_noL, R.noL, Option.map, true_and, and_true, ge_iff_le, gt_iff_lt, implies_true, q_ite_t, q_ite_f, beq_iff_eq, bne_iff_ne, q_ne, Nat.reduceAdd, Nat.reducePow, Int.reducePow, Nat.reduceMul, Nat.reduceSub, Nat.reduceLeDiff, Nat.reduceLT, Nat.reduceEqDiff, Int.reduceNeg, Int.reduceLT, Int.reduceLE, Int.reduceEq, Int.reduceNe, Int.reduceAdd, Int.reduceSub, Int.reduceMul, Int.reduceToNat, Int.reduceBEq, Int.reduceBNe, List.append_nil, Int.natCast_zero]
  · rintro X ⟨i, M, cp⟩ ⟨hi, hi2, hM, hM2, hcp⟩ IH
    simp only at hi hi2 hM hM2 hcp IH ⊢
    obtain ⟨b, hb⟩ : ∃ b, low ++ M = b := ⟨_, rfl⟩
    have hbl : b.length ≤ 90 := by rw [← hb, List.length_append]; omega
    have hql := (List.getElem?_eq_some_iff.1 hq).1
    have hqu : ∀ d, R.unl H.length d (.g q) = .g q := fun d => R.unl_lt hql
    have hqv : q < H.length + 1 := by omega
    have hh1 : H.length < H.length + 1 := by omega
    have fin := local_end2 (n0 := n0) (K := K) (H := H ++ [⟨.rw, arr Lay.cl b, cp * 12⟩]) (q := q) (x := x) (y := .sl (.g H.length) 0 b.length cp) (low := low) (both := b) (c := c) (w := w) (d := d)
      (by refine clean_app hH (by simp) ?_; simp only [clean, List.all_cons, List.all_nil, Bool.and_true]; exact lay_vals _ _ _) (by rw [app_getl (List.getElem?_eq_some_iff.1 hq).1, hq]) h1.app (.inr ⟨H.length, cp, .rw, cp * 12, rfl, by rw [app_get0]; rfl, fun _ => by simp⟩) l1 hbl hu
      (fun g1 g2 g3 => by rw [← hb]; exact rsl_local hlow hM2 l1 (by omega) g1 g2 g3) hK
    have hk2 := lay_known b
    have hn2 := lay_names b
    have hl2 := lay_len b
    have hcp' : b.length ≤ cp := by rw [← hb]; exact hcp
    rw [hb]
    by_cases hx : i < more.length ∧ i < 40
    · obtain ⟨g1, g40⟩ := hx
      obtain ⟨d1, d2, d3, d4⟩ := idx g1 l2
      have d5 : (i : Int) < 40 := by omega
      obtain ⟨j, c', st, room, hse, hj, hd⟩ := h2.at g1
      obtain ⟨y, hy⟩ : ∃ y, nth layZ more i = y := ⟨_, rfl⟩
      have hs : sub (arr Lay.cl more) (i * 12) 12 = y.cl := by rw [← hy, nth_eq g1]; exact arr_sub Lay.cl_len g1
      have g0 : (arr Lay.cl more)[i * 12]? = some (.i .i64 y.at_) := by rw [arr_get0 Lay.cl_len g1 (by omega), ← nth_eq (d := layZ) g1, hy]; rfl
      have hle : i * 12 + 12 ≤ (arr Lay.cl more).length := by
        rw [lay_len]
        have : (i + 1) * 12 ≤ more.length * 12 := Nat.mul_le_mul_right _ g1
        omega
      by_cases c2 : 2048 ≤ y.at_
      · have hby2 : (b.length + 1) * 96 ≤ 140737488355328 := by omega
        have hsn := lay_snoc b y
        simp only [Lay.cl, Cap.cl] at hs hsn
        refine run_sound (Tab.ok_Γ _) 200 _ _ _ _ ?_
        simp (config := { maxSteps := 10000000 }) only [EV1, EV2, EV3, EV4, EV5, EV6, addT, istep, lenR_sl, lenR_ns, lenR_es, pickR, putD, bin1R, un1R, slcR, bnd, capsOf, fillP, S_plain, V_plain, V.cells, S_known, V_known, C.v, blk, setL, setH, eqS, eq1, cmpS, cmp1, isNil, popTo, killT, setT, leT, V.below, C.below, S_below, R.below, V.val, C.val, S_val, R.val, R.takes, vals, shows, List.any_cons, List.any_nil, unnamed, V.kill, V.names, C.names, S_names, R.names, List.set, List.replicate, ↓q_cond_t, ↓q_cond_f, if_true, if_false, reduceCtorEq, rvals, rvC, result, C_known, V.noL, C.noL, S_noL, R.noL, Option.map, true_and, and_true, ge_iff_le, gt_iff_lt, implies_true, q_ite_t, q_ite_f, beq_iff_eq, bne_iff_ne, q_ne, Nat.reduceAdd, Nat.reducePow, Int.reducePow, Nat.reduceMul, Nat.reduceSub, Nat.reduceLeDiff, Nat.reduceLT, Nat.reduceEqDiff, Int.reduceNeg, Int.reduceLT, Int.reduceLE, Int.reduceEq, Int.reduceNe, Int.reduceAdd, Int.reduceSub, Int.reduceMul, Int.reduceToNat, Int.reduceBEq, Int.reduceBNe, hse, d1, d2, d3, d4, d5, hj, hd, g0, hs, hle, c2, hk2, hn2, hl2, hcp', hby2, Int.toNat_natCast, put, fillP]
        intro c3 hc3
        refine IH (i + 1, M ++ [y], c3) _ (by show more.length - (i + 1) < more.length - i; omega) ⟨g1, g40, by show (M ++ [y]).length ≤ i + 1; rw [List.length_append]; simp only [List.length_cons, List.length_nil]; omega, ?_, ?_⟩ ?_
        · intro z hz
          rcases List.mem_append.1 hz with h3 | h3
          · exact hM2 z h3
          · simp only [List.mem_singleton] at h3; subst h3; exact c2
        · rw [← List.append_assoc, hb, List.length_append]; simpa using hc3
        · rw [← List.append_assoc, hb]
          refine Wk.keep 1 ?_ rfl ?_ ?_ ?_
          all_goals simp (config := { maxSteps := 10000000 }) only [EV1, EV2, EV3, EV4, EV5, EV6, addT, istep, lenR_sl, lenR_ns, lenR_es, pickR, putD, bin1R, un1R, slcR, bnd, capsOf, fillP, S_plain, V_plain, V.cells, S_known, V_known, C.v, blk, setL, setH, eqS, eq1, cmpS, cmp1, isNil, popTo, killT, setT, leT, V.below, C.below, S_below, R.below, V.val, C.val, S_val, R.val, R.takes, vals, shows, List.any_cons, List.any_nil, unnamed, V.kill, V.names, C.names, S_names, R.names, List.set, List.replicate, ↓q_cond_t, ↓q_cond_f, if_true, if_false, reduceCtorEq, rvals, rvC, result, C_known, V.noL, C.noL, S_noL, R.noL, Option.map, true_and, and_true, ge_iff_le, gt_iff_lt, implies_true, q_ite_t, q_ite_f, beq_iff_eq, bne_iff_ne, q_ne, Nat.reduceAdd, Nat.reducePow, Int.reducePow, Nat.reduceMul, Nat.reduceSub, Nat.reduceLeDiff, Nat.reduceLT, Nat.reduceEqDiff, Int.reduceNeg, Int.reduceLT, Int.reduceLE, Int.reduceEq, Int.reduceNe, Int.reduceAdd, Int.reduceSub, Int.reduceMul, Int.reduceToNat, Int.reduceBEq, Int.reduceBNe, hse, hsn, hnm1, lay_below, hb1, List.all_append, List.take_succ_cons, List.take_zero]
      · refine run_sound (Tab.ok_Γ _) 200 _ _ _ _ ?_
        simp (config := { maxSteps := 10000000 }) only [EV1, EV2, EV3, EV4, EV5, EV6, addT, istep, lenR_sl, lenR_ns, lenR_es, pickR, putD, bin1R, un1R, slcR, bnd, capsOf, fillP, S_plain, V_plain, V.cells, S_known, V_known, C.v, blk, setL, setH, eqS, eq1, cmpS, cmp1, isNil, popTo, killT, setT, leT, V.below, C.below, S_below, R.below, V.val, C.val, S_val, R.val, R.takes, vals, shows, List.any_cons, List.any_nil, unnamed, V.kill, V.names, C.names, S_names, R.names, List.set, List.replicate, ↓q_cond_t, ↓q_cond_f, if_true, if_false, reduceCtorEq, rvals, rvC, result, C_known, V.noL, C.noL, S_noL, R.noL, Option.map, true_and, and_true, ge_iff_le, gt_iff_lt, implies_true, q_ite_t, q_ite_f, beq_iff_eq, bne_iff_ne, q_ne, Nat.reduceAdd, Nat.reducePow, Int.reducePow, Nat.reduceMul, Nat.reduceSub, Nat.reduceLeDiff, Nat.reduceLT, Nat.reduceEqDiff, Int.reduceNeg, Int.reduceLT, Int.reduceLE, Int.reduceEq, Int.reduceNe, Int.reduceAdd, Int.reduceSub, Int.reduceMul, Int.reduceToNat, Int.reduceBEq, Int.reduceBNe, hse, d1, d2, d3, d4, d5, hj, hd, g0, hs, hle, c2, Int.toNat_natCast, put, fillP]
        refine IH (i + 1, M, cp) _ (by show more.length - (i + 1) < more.length - i; omega) ⟨g1, g40, by show M.length ≤ i + 1; omega, hM2, hcp⟩ ?_
        rw [hb]
        refine Wk.same rfl rfl ?_
        simp (config := { maxSteps := 10000000 }) only [EV1, EV2, EV3, EV4, EV5, EV6, addT, istep, lenR_sl, lenR_ns, lenR_es, pickR, putD, bin1R, un1R, slcR, bnd, capsOf, fillP, S_plain, V_plain, V.cells, S_known, V_known, C.v, blk, setL, setH, eqS, eq1, cmpS, cmp1, isNil, popTo, killT, setT, leT, V.below, C.below, S_below, R.below, V.val, C.val, S_val, R.val, R.takes, vals, shows, List.any_cons, List.any_nil, unnamed, V.kill, V.names, C.names, S_names, R.names, List.set, List.replicate, ↓q_cond_t, ↓q_cond_f, if_true, if_false, reduceCtorEq, rvals, rvC, result, C_known, V.noL, C.noL, S_noL, R.noL, Option.map, true_and, and_true, ge_iff_le, gt_iff_lt, implies_true, q_ite_t, q_ite_f, beq_iff_eq, bne_iff_ne, q_ne, Nat.reduceAdd, Nat.reducePow, Int.reducePow, Nat.reduceMul, Nat.reduceSub, Nat.reduceLeDiff, Nat.reduceLT, Nat.reduceEqDiff, Int.reduceNeg, Int.reduceLT, Int.reduceLE, Int.reduceEq, Int.reduceNe, Int.reduceAdd, Int.reduceSub, Int.reduceMul, Int.reduceToNat, Int.reduceBEq, Int.reduceBNe, hse]
    · have hcond : ¬ ((i : Int) < more.length) ∨ ¬ ((i : Int) < 40) := by omega
      by_cases g1 : (i : Int) < more.length
      · have g2 : ¬ (i : Int) < 40 := by omega
        refine run_sound (Tab.ok_Γ _) 200 _ _ _ _ ?_
        simp (config := { maxSteps := 10000000 }) only [EV1, EV2, EV3, EV4, EV5, EV6, addT, istep, lenR_sl, lenR_ns, lenR_es, pickR, putD, bin1R, un1R, slcR, bnd, capsOf, fillP, S_plain, V_plain, V.cells, S_known, V_known, C.v, blk, setL, setH, eqS, eq1, cmpS, cmp1, isNil, popTo, killT, setT, leT, V.below, C.below, S_below, R.below, V.val, C.val, S_val, R.val, R.takes, vals, shows, List.any_cons, List.any_nil, unnamed, V.kill, V.names, C.names, S_names, R.names, List.set, List.replicate, ↓q_cond_t, ↓q_cond_f, if_true, if_false, reduceCtorEq, rvals, rvC, result, C_known, V.noL, C.noL, S_noL, R.noL, Option.map, true_and, and_true, ge_iff_le, gt_iff_lt, implies_true, q_ite_t, q_ite_f, beq_iff_eq, bne_iff_ne, q_ne, Nat.reduceAdd, Nat.reducePow, Int.reducePow, Nat.reduceMul, Nat.reduceSub, Nat.reduceLeDiff, Nat.reduceLT, Nat.reduceEqDiff, Int.reduceNeg, Int.reduceLT, Int.reduceLE, Int.reduceEq, Int.reduceNe, Int.reduceAdd, Int.reduceSub, Int.reduceMul, Int.reduceToNat, Int.reduceBEq, Int.reduceBNe, hlen2, g1, g2]
        refine swp_weak (Wk.share 0 hn0 ?_ ?_ ?_ ?_ ?_ hH) fin
        · simp (config := { maxSteps := 10000000 }) only [EV1, EV2, EV3, EV4, EV5, EV6, addT, istep, lenR_sl, lenR_ns, lenR_es, pickR, putD, bin1R, un1R, slcR, bnd, capsOf, fillP, S_plain, V_plain, V.cells, S_known, V_known, C.v, blk, setL, setH, eqS, eq1, cmpS, cmp1, isNil, popTo, killT, setT, leT, V.below, C.below, S_below, R.below, V.val, C.val, S_val, R.val, R.takes, vals, shows, List.any_cons, List.any_nil, unnamed, V.kill, V.names, C.names, S_names, R.names, List.set, List.replicate, ↓q_cond_t, ↓q_cond_f, if_true, if_false, reduceCtorEq, rvals, rvC, result, C_known, V.noL, C.noL, S_noL, R.noL, Option.map, true_and, and_true, ge_iff_le, gt_iff_lt, implies_true, q_ite_t, q_ite_f, beq_iff_eq, bne_iff_ne, q_ne, Nat.reduceAdd, Nat.reducePow, Int.reducePow, Nat.reduceMul, Nat.reduceSub, Nat.reduceLeDiff, Nat.reduceLT, Nat.reduceEqDiff, Int.reduceNeg, Int.reduceLT, Int.reduceLE, Int.reduceEq, Int.reduceNe, Int.reduceAdd, Int.reduceSub, Int.reduceMul, Int.reduceToNat, Int.reduceBEq, Int.reduceBNe, List.map_cons, List.map_nil, Blk.ren, lay_ren, List.drop_zero]
        · simp (config := { maxSteps := 10000000 }) only [EV1, EV2, EV3, EV4, EV5, EV6, addT, istep, lenR_sl, lenR_ns, lenR_es, pickR, putD, bin1R, un1R, slcR, bnd, capsOf, fillP, S_plain, V_plain, V.cells, S_known, V_known, C.v, blk, setL, setH, eqS, eq1, cmpS, cmp1, isNil, popTo, killT, setT, leT, V.below, C.below, S_below, R.below, V.val, C.val, S_val, R.val, R.takes, vals, shows, List.any_cons, List.any_nil, unnamed, V.kill, V.names, C.names, S_names, R.names, List.set, List.replicate, ↓q_cond_t, ↓q_cond_f, if_true, if_false, reduceCtorEq, rvals, rvC, result, C_known, V.noL, C.noL, S_noL, R.noL, Option.map, true_and, and_true, ge_iff_le, gt_iff_lt, implies_true, q_ite_t, q_ite_f, beq_iff_eq, bne_iff_ne, q_ne, Nat.reduceAdd, Nat.reducePow, Int.reducePow, Nat.reduceMul, Nat.reduceSub, Nat.reduceLeDiff, Nat.reduceLT, Nat.reduceEqDiff, Int.reduceNeg, Int.reduceLT, Int.reduceLE, Int.reduceEq, Int.reduceNe, Int.reduceAdd, Int.reduceSub, Int.reduceMul, Int.reduceToNat, Int.reduceBEq, Int.reduceBNe, List.drop_zero]
        · simp (config := { maxSteps := 10000000 }) only [EV1, EV2, EV3, EV4, EV5, EV6, addT, istep, lenR_sl, lenR_ns, lenR_es, pickR, putD, bin1R, un1R, slcR, bnd, capsOf, fillP, S_plain, V_plain, V.cells, S_known, V_known, C.v, blk, setL, setH, eqS, eq1, cmpS, cmp1, isNil, popTo, killT, setT, leT, V.below, C.below, S_below, R.below, V.val, C.val, S_val, R.val, R.takes, vals, shows, List.any_cons, List.any_nil, unnamed, V.kill, V.names, C.names, S_names, R.names, List.set, List.replicate, ↓q_cond_t, ↓q_cond_f, if_true, if_false, reduceCtorEq, rvals, rvC, result, C_known, V.noL, C.noL, S_noL, R.noL, Option.map, true_and, and_true, ge_iff_le, gt_iff_lt, implies_true, q_ite_t, q_ite_f, beq_iff_eq, bne_iff_ne, q_ne, Nat.reduceAdd, Nat.reducePow, Int.reducePow, Nat.reduceMul, Nat.reduceSub, Nat.reduceLeDiff, Nat.reduceLT, Nat.reduceEqDiff, Int.reduceNeg, Int.reduceLT, Int.reduceLE, Int.reduceEq, Int.reduceNe, Int.reduceAdd, Int.reduceSub, Int.reduceMul, Int.reduceToNat, Int.reduceBEq, Int.reduceBNe, localT, setT, List.map_cons, List.map_nil, V.ren, S_ren, hqu, hpl, R.unl_0, hnm1]
        · simp (config := { maxSteps := 10000000 }) only [EV1, EV2, EV3, EV4, EV5, EV6, addT, istep, lenR_sl, lenR_ns, lenR_es, pickR, putD, bin1R, un1R, slcR, bnd, capsOf, fillP, S_plain, V_plain, V.cells, S_known, V_known, C.v, blk, setL, setH, eqS, eq1, cmpS, cmp1, isNil, popTo, killT, setT, leT, V.below, C.below, S_below, R.below, V.val, C.val, S_val, R.val, R.takes, vals, shows, List.any_cons, List.any_nil, unnamed, V.kill, V.names, C.names, S_names, R.names, List.set, List.replicate, ↓q_cond_t, ↓q_cond_f, if_true, if_false, reduceCtorEq, rvals, rvC, result, C_known, V.noL, C.noL, S_noL, R.noL, Option.map, true_and, and_true, ge_iff_le, gt_iff_lt, implies_true, q_ite_t, q_ite_f, beq_iff_eq, bne_iff_ne, q_ne, Nat.reduceAdd, Nat.reducePow, Int.reducePow, Nat.reduceMul, Nat.reduceSub, Nat.reduceLeDiff, Nat.reduceLT, Nat.reduceEqDiff, Int.reduceNeg, Int.reduceLT, Int.reduceLE, Int.reduceEq, Int.reduceNe, Int.reduceAdd, Int.reduceSub, Int.reduceMul, Int.reduceToNat, Int.reduceBEq, Int.reduceBNe, localT, setT, hvs1, hqv, hh1]
        · simp only [clean_cons, clean_nil, lay_vals, Bool.and_true]
      · refine run_sound (Tab.ok_Γ _) 200 _ _ _ _ ?_
        simp (config := { maxSteps := 10000000 }) only [EV1, EV2, EV3, EV4, EV5, EV6, addT, istep, lenR_sl, lenR_ns, lenR_es, pickR, putD, bin1R, un1R, slcR, bnd, capsOf, fillP, S_plain, V_plain, V.cells, S_known, V_known, C.v, blk, setL, setH, eqS, eq1, cmpS, cmp1, isNil, popTo, killT, setT, leT, V.below, C.below, S_below, R.below, V.val, C.val, S_val, R.val, R.takes, vals, shows, List.any_cons, List.any_nil, unnamed, V.kill, V.names, C.names, S_names, R.names, List.set, List.replicate, ↓q_cond_t, ↓q_cond_f, if_true, if_false, reduceCtorEq, rvals, rvC, result, C_known, V.noL, C.noL, S_noL, R.noL, Option.map, true_and, and_true, ge_iff_le, gt_iff_lt, implies_true, q_ite_t, q_ite_f, beq_iff_eq, bne_iff_ne, q_ne, Nat.reduceAdd, Nat.reducePow, Int.reducePow, Nat.reduceMul, Nat.reduceSub, Nat.reduceLeDiff, Nat.reduceLT, Nat.reduceEqDiff, Int.reduceNeg, Int.reduceLT, Int.reduceLE, Int.reduceEq, Int.reduceNe, Int.reduceAdd, Int.reduceSub, Int.reduceMul, Int.reduceToNat, Int.reduceBEq, Int.reduceBNe, hlen2, g1]
        refine swp_weak (Wk.share 0 hn0 ?_ ?_ ?_ ?_ ?_ hH) fin
        · simp (config := { maxSteps := 10000000 }) only [EV1, EV2, EV3, EV4, EV5, EV6, addT, istep, lenR_sl, lenR_ns, lenR_es, pickR, putD, bin1R, un1R, slcR, bnd, capsOf, fillP, S_plain, V_plain, V.cells, S_known, V_known, C.v, blk, setL, setH, eqS, eq1, cmpS, cmp1, isNil, popTo, killT, setT, leT, V.below, C.below, S_below, R.below, V.val, C.val, S_val, R.val, R.takes, vals, shows, List.any_cons, List.any_nil, unnamed, V.kill, V.names, C.names, S_names, R.names, List.set, List.replicate, ↓q_cond_t, ↓q_cond_f, if_true, if_false, reduceCtorEq, rvals, rvC, result, C_known, V.noL, C.noL, S_noL, R.noL, Option.map, true_and, and_true, ge_iff_le, gt_iff_lt, implies_true, q_ite_t, q_ite_f, beq_iff_eq, bne_iff_ne, q_ne, Nat.reduceAdd, Nat.reducePow, Int.reducePow, Nat.reduceMul, Nat.reduceSub, Nat.reduceLeDiff, Nat.reduceLT, Nat.reduceEqDiff, Int.reduceNeg, Int.reduceLT, Int.reduceLE, Int.reduceEq, Int.reduceNe, Int.reduceAdd, Int.reduceSub, Int.reduceMul, Int.reduceToNat, Int.reduceBEq, Int.reduceBNe, List.map_cons, List.map_nil, Blk.ren, lay_ren, List.drop_zero]
        · simp (config := { maxSteps := 10000000 }) only [EV1, EV2, EV3, EV4, EV5, EV6, addT, istep, lenR_sl, lenR_ns, lenR_es, pickR, putD, bin1R, un1R, slcR, bnd, capsOf, fillP, S_plain, V_plain, V.cells, S_known, V_known, C.v, blk, setL, setH, eqS, eq1, cmpS, cmp1, isNil, popTo, killT, setT, leT, V.below, C.below, S_below, R.below, V.val, C.val, S_val, R.val, R.takes, vals, shows, List.any_cons, List.any_nil, unnamed, V.kill, V.names, C.names, S_names, R.names, List.set, List.replicate, ↓q_cond_t, ↓q_cond_f, if_true, if_false, reduceCtorEq, rvals, rvC, result, C_known, V.noL, C.noL, S_noL, R.noL, Option.map, true_and, and_true, ge_iff_le, gt_iff_lt, implies_true, q_ite_t, q_ite_f, beq_iff_eq, bne_iff_ne, q_ne, Nat.reduceAdd, Nat.reducePow, Int.reducePow, Nat.reduceMul, Nat.reduceSub, Nat.reduceLeDiff, Nat.reduceLT, Nat.reduceEqDiff, Int.reduceNeg, Int.reduceLT, Int.reduceLE, Int.reduceEq, Int.reduceNe, Int.reduceAdd, Int.reduceSub, Int.reduceMul, Int.reduceToNat, Int.reduceBEq, Int.reduceBNe, List.drop_zero]
        · simp (config := { maxSteps := 10000000 }) only [EV1, EV2, EV3, EV4, EV5, EV6, addT, istep, lenR_sl, lenR_ns, lenR_es, pickR, putD, bin1R, un1R, slcR, bnd, capsOf, fillP, S_plain, V_plain, V.cells, S_known, V_known, C.v, blk, setL, setH, eqS, eq1, cmpS, cmp1, isNil, popTo, killT, setT, leT, V.below, C.below, S_below, R.below, V.val, C.val, S_val, R.val, R.takes, vals, shows, List.any_cons, List.any_nil, unnamed, V.kill, V.names, C.names, S_names, R.names, List.set, List.replicate, ↓q_cond_t, ↓q_cond_f, if_true, if_false, reduceCtorEq, rvals, rvC, result, C_known, V.noL, C.noL, S_noL, R.noL, Option.map, true_and, and_true, ge_iff_le, gt_iff_lt, implies_true, q_ite_t, q_ite_f, beq_iff_eq, bne_iff_ne, q_ne, Nat.reduceAdd, Nat.reducePow, Int.reducePow, Nat.reduceMul, Nat.reduceSub, Nat.reduceLeDiff, Nat.reduceLT, Nat.reduceEqDiff, Int.reduceNeg, Int.reduceLT, Int.reduceLE, Int.reduceEq, Int.reduceNe, Int.reduceAdd, Int.reduceSub, Int.reduceMul, Int.reduceToNat, Int.reduceBEq, Int.reduceBNe, localT, setT, List.map_cons, List.map_nil, V.ren, S_ren, hqu, hpl, R.unl_0, hnm1]
        · simp (config := { maxSteps := 10000000 }) only [EV1, EV2, EV3, EV4, EV5, EV6, addT, istep, lenR_sl, lenR_ns, lenR_es, pickR, putD, bin1R, un1R, slcR, bnd, capsOf, fillP, S_plain, V_plain, V.cells, S_known, V_known, C.v, blk, setL, setH, eqS, eq1, cmpS, cmp1, isNil, popTo, killT, setT, leT, V.below, C.below, S_below, R.below, V.val, C.val, S_val, R.val, R.takes, vals, shows, List.any_cons, List.any_nil, unnamed, V.kill, V.names, C.names, S_names, R.names, List.set, List.replicate, ↓q_cond_t, ↓q_cond_f, if_true, if_false, reduceCtorEq, rvals, rvC, result, C_known, V.noL, C.noL, S_noL, R.noL, Option.map, true_and, and_true, ge_iff_le, gt_iff_lt, implies_true, q_ite_t, q_ite_f, beq_iff_eq, bne_iff_ne, q_ne, Nat.reduceAdd, Nat.reducePow, Int.reducePow, Nat.reduceMul, Nat.reduceSub, Nat.reduceLeDiff, Nat.reduceLT, Nat.reduceEqDiff, Int.reduceNeg, Int.reduceLT, Int.reduceLE, Int.reduceEq, Int.reduceNe, Int.reduceAdd, Int.reduceSub, Int.reduceMul, Int.reduceToNat, Int.reduceBEq, Int.reduceBNe, localT, setT, hvs1, hqv, hh1]
        · simp only [clean_cons, clean_nil, lay_vals, Bool.and_true]
end Go.Proofs.Ytdlloccodmdnnaa

