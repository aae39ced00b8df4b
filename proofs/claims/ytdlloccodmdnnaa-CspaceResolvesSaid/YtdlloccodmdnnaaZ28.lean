/- Cspace: plain facts of lookups. -/
import Derived.Test.YtdlloccodmdnnaaZ27
import Derived.Test.YtdlloccodmdnnaaZ10
/- Own blocks become shared ones. Law 10: awake. -/
namespace Go.Proofs.Ytdlloccodmdnnaa
open Go.D
set_option linter.all false
set_option maxRecDepth 100000
set_option maxHeartbeats 8000000

/-- The own blocks from the d-th one on, as shared ones behind the n that there are. -/
def R.unl (n d : Nat) : R → R
  | .g k => if k < n then .g k else .l (d + (k - n))
  | .l k => .l k
theorem R.unl_lt {n d k : Nat} (h : k < n) : R.unl n d (.g k) = .g k := if_pos h
theorem R.unl_0 {n d : Nat} : R.unl n d (.g n) = .l (d + 0) := by simp [R.unl]
theorem R.unl_s {n d j : Nat} : R.unl n d (.g (n + j)) = .l (d + j) := by simp [R.unl]
theorem Wk.share {n0 : Nat} {t t' : List V} {ls h X : List Blk} (d : Nat) (hn : n0 ≤ h.length) (hX : X.map (Blk.ren (R.unl h.length d)) = ls.drop d) (hrw : (ls.drop d).all (fun B => decide (B.st = .rw)) = true)
    (ht : leT (t'.map (V.ren (R.unl h.length d))) t) (hv : t'.all (V.val (h.length + X.length) 0) = true) (hcX : clean (h.length + X.length) X = true) (hh : clean h.length h = true) : Wk n0 ⟨t, ls, h⟩ ⟨t', [], h ++ X⟩ := by
  obtain ⟨h1, h2⟩ := leT_at ht
  have hcl := hh
  simp only [clean, List.all_eq_true] at hh hcX
  have hlen : X.length = (ls.drop d).length := by simpa using congrArg List.length hX
  have hat : ∀ (k : Nat) (B : Blk), X[k]? = some B → ls[d + k]? = some (B.ren (R.unl h.length d)) := fun k B hk => by
    have := congrArg (fun l => l[k]?) hX
    simp only [List.getElem?_map, hk, Option.map_some, List.getElem?_drop] at this
    exact this.symm
  have hρ : ∀ B : Blk, vals h.length 0 B.cells = true → B.ren (R.unl h.length d) = B := fun B hb => by
    obtain ⟨st, cells, room⟩ := B
    simp only [Blk.ren]
    congr 1
    refine (List.map_congr_left fun s hs => ?_).trans (List.map_id _)
    simp only [vals, List.all_eq_true] at hb
    have hs := hb s hs
    have hr : ∀ r : R, r.val h.length 0 = true → R.unl h.length d r = r := fun r hr => by
      cases r with
      | g k => exact R.unl_lt (by simpa [R.val] using hr)
      | l k => simp [R.val] at hr
    cases s with
    | p r o => simp only [S.ren, id]; rw [hr r hs]
    | sl r o a c => simp only [S.ren, id]; rw [hr r hs]
    | fn f cs =>
      simp only [S.ren, S.fn.injEq, true_and, id]
      simp only [S.val, List.all_eq_true] at hs
      refine (List.map_congr_left fun x hx => ?_).trans (List.map_id _)
      rw [hr x.1 (hs x hx)]; rfl
    | _ => rfl
  refine .by_ (R.unl h.length d) ⟨by simp only [List.length_append]; omega, fun k hk => R.unl_lt (by omega), fun k hk hk' => ?_, fun r r' hr hr' e => ?_, fun r B' hb => ?_, fun B' hB' => ?_, fun B' hB' => (by cases hB'), by simpa using h1, fun i' v' hi' => ?_⟩
  · simp only [List.length_append] at hk'
    by_cases e : k < h.length
    · exact .inl ⟨k, hk, R.unl_lt e⟩
    · refine .inr ⟨d + (k - h.length), ((X[k - h.length]'(by omega)).ren (R.unl h.length d)), if_neg e, hat _ _ (List.getElem?_eq_getElem _), ?_⟩
      have : (X[k - h.length]'(by omega)).ren (R.unl h.length d) ∈ ls.drop d := by
        rw [← hX]; exact List.mem_map_of_mem (List.getElem_mem _)
      simp only [List.all_eq_true, decide_eq_true_eq] at hrw
      exact hrw _ this
  · cases r with
    | l k => simp [R.val] at hr
    | g k => cases r' with
      | l k' => simp [R.val] at hr'
      | g k' =>
        simp only [R.unl] at e
        split at e <;> split at e <;> simp only [R.g.injEq, R.l.injEq, reduceCtorEq] at e ⊢ <;> omega
  · cases r with
    | l k => simp [blk] at hb
    | g k =>
      simp only [blk] at hb
      by_cases e : k < h.length
      · rw [R.unl_lt e]
        rw [List.getElem?_append_left e] at hb
        show h[k]? = _
        rw [hb, hρ B' (hh B' (List.mem_of_getElem? hb))]
      · rw [List.getElem?_append_right (by omega)] at hb
        have := hat _ _ hb
        simp only [R.unl, if_neg e]
        exact this
  · simp only [List.length_append]
    rcases List.mem_append.1 hB' with h3 | h3
    · exact vals_mono (by omega) (Nat.le_refl _) (hh _ h3)
    · exact hcX _ h3
  · simp only [List.all_eq_true] at hv
    refine ⟨by simp only [List.length_append]; exact hv v' (List.mem_of_getElem? hi'), ?_⟩
    rcases h2 i' (v'.ren (R.unl h.length d)) (by rw [List.getElem?_map, hi']; rfl) with h3 | h3
    · exact .inl (V.ren_u' h3)
    · exact .inr h3
theorem unl_wc {n d : Nat} (w : List Int) : (wc w).map (S.ren (R.unl n d)) = wc w := wc_ren _ w

theorem MB_c {b : Nat} {m : M} : (MB b m).cells = [.sl (.g b) 0 m.w.length m.w.length, .i .i64 m.n] := by rfl
theorem MB_s {b : Nat} {m : M} : (MB b m).st = .rw := by rfl
theorem MW_c {m : M} : (MW m).cells = wc m.w := by rfl
theorem MW_s {m : M} : (MW m).st = .rw := by rfl
theorem nlx {a k : Nat} : (a + k < a) = False := by simp
theorem clean_MW {n : Nat} {m : M} : vals n 0 (MW m).cells = true := wc_vals _ _ _

/-! ### the examples -/
theorem M.getX_w' (m : M) (a : Int) : (m.getX a).w = m.w := by
  unfold M.getX; split <;> rfl
theorem M.getV_w {m k : M} (h : m.w = k.w) (a : Int) : m.getV a = k.getV a := by
  obtain ⟨w, n, u, l⟩ := m
  obtain ⟨w', n', u', l'⟩ := k
  simp only at h
  subst h
  rfl
theorem M.getE_w {m k : M} (h : m.w = k.w) (a : Int) : m.getE a = k.getE a := by
  obtain ⟨w, n, u, l⟩ := m
  obtain ⟨w', n', u', l'⟩ := k
  simp only at h
  subst h
  rfl
def AW (m : M) : Prop := m.getE 1028 = 0 ∧ m.getV 1028 = ⟨innerC, 0, 0, 0⟩ ∧ m.getE 1040 = 0 ∧ (m.getV 1040).cap.ty = 4
theorem AW.w {m k : M} (H : AW m) (h : k.w = m.w) : AW k := by
  unfold AW at *
  rw [M.getE_w h, M.getE_w h, M.getV_w h, M.getV_w h]; exact H
theorem AW.get {m : M} (H : AW m) (a : Int) : AW (m.getX a) := H.w (M.getX_w' m a)
theorem AW.r1 {m : M} (H : AW m) : rsl false m outerC 21 5 = ⟨1028, 0, 0, m⟩ := by
  rw [rsl_way rfl (by decide) (by decide)]
  rw [way, if_neg (by decide), if_neg (by decide), if_neg (by decide), if_pos (by decide)]
  rfl
theorem AW.r2 {m : M} (H : AW m) : rsl false m outerC 171 8 = ⟨1040, 2, 0, (m.getX 1028).getX 1040⟩ := by
  have e1 : wayA 171 outerC 8 = 1028 := by decide
  have e2 : wayA 171 innerC 3 = 1040 := by decide
  have H2 := H.get 1028
  rw [rsl_way rfl (by decide) (by decide)]
  rw [way, if_neg (by decide), if_neg (by decide), if_neg (by decide), if_neg (by decide), e1, if_pos ⟨H.1, by rw [H.2.1]; rfl⟩]
  rw [H.2.1]
  rw [show (8 : Int) - outerC.gbits - outerC.bits = 3 from rfl]
  rw [way, if_neg (by decide), if_neg (by decide), if_neg (by decide), if_neg (by decide), e2, if_neg (fun e => by rw [H2.2.2.2] at e; exact absurd e.2 (by decide))]
  rfl
theorem AW.r3 {m : M} (H : AW m) : rsl false m outerC 17 5 = ⟨0, 0, 102, m⟩ := by
  rw [rsl_way rfl (by decide) (by decide)]
  rw [way, if_neg (by decide), if_pos (by decide)]
theorem rsl_capZ {d : Bool} {m : M} {w n : Int} : rsl d m capZ w n = ⟨0, 0, 100, m⟩ := rsl_no (by decide)
theorem AW.laid : AW (laidW [⟨1028, innerC⟩, ⟨1040, ⟨4, 1048, 0, 0, 0, 0, 0, 7, 0, 0, 0⟩⟩]).fresh := by
  refine AW.w (m := laidW [⟨1028, innerC⟩, ⟨1040, ⟨4, 1048, 0, 0, 0, 0, 0, 7, 0, 0, 0⟩⟩]) ?_ rfl
  show AW (layX (layX (M.zero 12) ⟨1028, innerC⟩) ⟨1040, ⟨4, 1048, 0, 0, 0, 0, 0, 7, 0, 0, 0⟩⟩)
  have l0 : (M.zero 12).w.length = 4096 := M.zero_len 12
  obtain ⟨z, hz⟩ : ∃ z, M.zero 12 = z := ⟨_, rfl⟩
  rw [hz] at l0 ⊢
  simp only [layX]
  have t1 : thereB z 1028 = true := by simp only [thereB, l0]; decide
  have t2 : thereB z 1040 = true := by simp only [thereB, l0]; decide
  have t3 : ∀ s, thereB (z.putX 1028 s) 1040 = true := fun s => by rw [M.putX_there]; exact t2
  have t4 : ∀ s, thereB (z.putX 1028 s) 1028 = true := fun s => by rw [M.putX_there]; exact t1
  have e1 : z.putE 1028 ⟨innerC, 0, 0, 0⟩ = 0 := putE_ok.2 ⟨t1, by decide⟩
  have e2 : (z.putX 1028 ⟨innerC, 0, 0, 0⟩).putE 1040 ⟨⟨4, 1048, 0, 0, 0, 0, 0, 7, 0, 0, 0⟩, 0, 0, 0⟩ = 0 := putE_ok.2 ⟨t3 _, by decide⟩
  have v2 := M.put_get e2
  have v1 := M.put_get_other (m := z.putX 1028 ⟨innerC, 0, 0, 0⟩) (a := 1028) (b := 1040) (t := ⟨⟨4, 1048, 0, 0, 0, 0, 0, 7, 0, 0, 0⟩, 0, 0, 0⟩) (t4 _) (by decide)
  rw [M.put_get e1] at v1
  have g : ∀ (k : M) (a : Int), thereB k a = true → ¬ (k.getV a).cap.ty = 0 → k.getE a = 0 := fun k a ht hv => by
    unfold M.getE M.getV at *
    rw [ht] at hv ⊢
    cases hb : k.slotB a
    · rw [hb] at hv; exact absurd rfl hv
    · rfl
  refine ⟨g _ _ (by rw [M.putX_there]; exact t4 _) (by rw [v1]; decide), v1, g _ _ (by rw [M.putX_there]; exact t3 _) (by rw [v2]; decide), by rw [v2]⟩
end Go.Proofs.Ytdlloccodmdnnaa

/- Law 10: awake: the walk. -/
namespace Go.Proofs.Ytdlloccodmdnnaa
open Go.D
set_option linter.all false
set_option maxRecDepth 100000
set_option maxHeartbeats 8000000

def awake10G : List V → List Blk → Res
  | [], h => .ok (.s (.b true)) [] h
  | _, _ => .bad
noncomputable def T10a : Tab := addT 47 innerCG (addT 48 outerCG (addT 15 laidG (addT 16 (rslG false) (addT 22 (sltG false) (noT)))))
theorem T10a_snd : T10a.Snd Try.prog := addT_snd ok47 inner_snd (addT_snd ok48 outer_snd (addT_snd ok15 laid10_snd (addT_snd ok16 rsl_snd (addT_snd ok22 slt_snd ((noT_snd _))))))
theorem awake10_end {h : List Blk} {K : V → List Blk → Prop} {r m : M} (hc : clean h.length h = true) (H : AW m) (hS : K (.s (.b true)) h) :
    swp T10a.Γ h.length (finP df13.res (Cut h.length K)) [.c (DC.after 2 df13.body)] ⟨setT [(1, .s (.p (.g (h.length + 2)) 0))] (List.replicate 96 (.s .u)), [], h ++ [MB (h.length + 1) r, MW r, MB (h.length + 3) m, MW m]⟩ := by
  have H1 := (H.get 1028).get 1040
  have H2 := (H1.get 1028).get 1040
  have e1 := H.r1
  have e2 := H.r2
  have e3 := H1.r3
  have e4 := H1.r2
  have e5 := fun m => rsl_capZ (d := false) (m := m) (w := 0) (n := 5)
  obtain ⟨m1, h1⟩ : ∃ m1, (m.getX 1028).getX 1040 = m1 := ⟨_, rfl⟩
  rw [h1] at e2 e3 e4
  obtain ⟨m2, h2⟩ : ∃ m2, (m1.getX 1028).getX 1040 = m2 := ⟨_, rfl⟩
  rw [h2] at e4
  simp only [outerC, capZ] at e1 e2 e3 e4 e5
  simp only [DC.after, df13]
  refine run_sound (Tab.ok_Γ _) 400 _ _ _ _ ?_
  simp (config := { maxSteps := 10000000 }) only [EV1, EV2, EV3, EV4, EV5, EV6, addT, istep, lenR_sl, lenR_ns, lenR_es, pickR, putD, bin1R, un1R, slcR, bnd, capsOf, fillP, S_plain, V_plain, V.cells, S_known, V_known, C.v, blk, setL, setH, eqS, eq1, cmpS, cmp1, isNil, popTo, killT, setT, leT, V.below, C.below, S_below, R.below, V.val, C.val, S_val, R.val, R.takes, vals, shows, List.any_cons, List.any_nil, unnamed, V.kill, V.names, C.names, S_names, R.names, List.set, List.replicate, ↓q_cond_t, ↓q_cond_f, if_true, if_false, reduceCtorEq, rvals, rvC, result, C_known, V.noL, C.noL, S_noL, R.noL, Option.map, true_and, and_true, ge_iff_le, gt_iff_lt, implies_true, q_ite_t, q_ite_f, beq_iff_eq, bne_iff_ne, q_ne, Nat.reduceAdd, Nat.reducePow, Int.reducePow, Nat.reduceMul, Nat.reduceSub, Nat.reduceLeDiff, Nat.reduceLT, Nat.reduceEqDiff, Int.reduceNeg, Int.reduceLT, Int.reduceLE, Int.reduceEq, Int.reduceNe, Int.reduceAdd, Int.reduceSub, Int.reduceMul, Int.reduceToNat, Int.reduceBEq, Int.reduceBNe, T10a, outerCG, rslG, memF_2, rslM, sltG, sltM, capF, e1, e2, e3, e4, e5, u64, RW.v, RW.slE, RW.slV, outerC, Cap.cl, sub, put, fillP, setT, List.take_succ_cons, List.take_zero, List.drop_zero]
  exact cut_app (Nat.le_refl _) hc rfl hS
theorem awake10_snd : Snd Try.prog 13 (FSpec.of awake10G) := (fwp_sound (Tab.snd_Γ T10a_snd) mixed Try.func13 dc13).cut fun args h K hc hS => by
  have hS : (awake10G args h).spec K := hS
  unfold awake10G at hS
  split at hS
  · simp only [spec_ok] at hS
    refine fwp_of _ (fun _ _ => finP_fin) (cut_at 2 ?_)
    obtain ⟨L, hL⟩ : ∃ L : List Lay, [⟨1028, innerC⟩, ⟨1040, ⟨4, 1048, 0, 0, 0, 0, 0, 7, 0, 0, 0⟩⟩] = L := ⟨_, rfl⟩
    have hw := AW.laid
    rw [hL] at hw
    have key := awake10_end (r := laidW L) hc hw hS
    have hn : L.length ≤ 9223372036854775807 := by rw [← hL]; decide
    have hl : L.length = 2 := by rw [← hL]; rfl
    have ha : ∀ cells room, cells = arr Lay.cl L → arrOf Lay.cl (h ++ [⟨.rw, cells, room⟩]) (.sl (.g h.length) 0 2 2) = some L := fun cells room e => arrOf_eq (.inr ⟨h.length, 2, .rw, room, by rw [hl], by rw [app_get0, e, List.getElem?_cons_zero], fun _ => by simp⟩)
    have hcl := congrArg (arr Lay.cl) hL.symm
    have ha' := ha _ 24 rfl
    rw [hcl] at ha'
    simp only [arr, Lay.cl, Cap.cl, innerC, List.cons_append, List.nil_append] at ha'
    obtain ⟨r, hr⟩ : ∃ r, laidW L = r := ⟨_, rfl⟩
    obtain ⟨m, hm⟩ : ∃ m, r.fresh = m := ⟨_, rfl⟩
    rw [hr, hm] at key
    simp only [df13]
    refine run_sound (Tab.ok_Γ _) 300 _ _ _ _ ?_
    simp (config := { maxSteps := 10000000 }) only [EV1, EV2, EV3, EV4, EV5, EV6, addT, istep, lenR_sl, lenR_ns, lenR_es, pickR, putD, bin1R, un1R, slcR, bnd, capsOf, fillP, S_plain, V_plain, V.cells, S_known, V_known, C.v, blk, setL, setH, eqS, eq1, cmpS, cmp1, isNil, popTo, killT, setT, leT, V.below, C.below, S_below, R.below, V.val, C.val, S_val, R.val, R.takes, vals, shows, List.any_cons, List.any_nil, unnamed, V.kill, V.names, C.names, S_names, R.names, List.set, List.replicate, ↓q_cond_t, ↓q_cond_f, if_true, if_false, reduceCtorEq, rvals, rvC, result, C_known, V.noL, C.noL, S_noL, R.noL, Option.map, true_and, and_true, ge_iff_le, gt_iff_lt, implies_true, q_ite_t, q_ite_f, beq_iff_eq, bne_iff_ne, q_ne, Nat.reduceAdd, Nat.reducePow, Int.reducePow, Nat.reduceMul, Nat.reduceSub, Nat.reduceLeDiff, Nat.reduceLT, Nat.reduceEqDiff, Int.reduceNeg, Int.reduceLT, Int.reduceLE, Int.reduceEq, Int.reduceNe, Int.reduceAdd, Int.reduceSub, Int.reduceMul, Int.reduceToNat, Int.reduceBEq, Int.reduceBNe, T10a, innerCG, innerC, laidG, R.lend, R.unlend, S_ren, C.ren, V.ren, app_taken, app_dropn, app_take0, app_drop0, List.take_succ_cons, List.take_zero, List.drop_succ_cons, List.drop_zero, Nat.not_lt_zero, Nat.lt_irrefl, Nat.add_sub_cancel_left, Nat.not_lt, Nat.le_add_right, nnn, nlx, app_len, MB, MW, wc_ren, M.fresh_len, Blk.ren, List.map_cons, List.map_nil, Cap.cl, ha', hn, hr, hm, put, fillP, sub, List.take_succ_cons, List.take_zero, List.drop_zero]
    refine ⟨hc, swp_weak (Wk.share 1 (Nat.le_refl _) ?_ ?_ ?_ ?_ ?_ hc) key⟩
    · simp (config := { maxSteps := 10000000 }) only [EV1, EV2, EV3, EV4, EV5, EV6, addT, istep, lenR_sl, lenR_ns, lenR_es, pickR, putD, bin1R, un1R, slcR, bnd, capsOf, fillP, S_plain, V_plain, V.cells, S_known, V_known, C.v, blk, setL, setH, eqS, eq1, cmpS, cmp1, isNil, popTo, killT, setT, leT, V.below, C.below, S_below, R.below, V.val, C.val, S_val, R.val, R.takes, vals, shows, List.any_cons, List.any_nil, unnamed, V.kill, V.names, C.names, S_names, R.names, List.set, List.replicate, ↓q_cond_t, ↓q_cond_f, if_true, if_false, reduceCtorEq, rvals, rvC, result, C_known, V.noL, C.noL, S_noL, R.noL, Option.map, true_and, and_true, ge_iff_le, gt_iff_lt, implies_true, q_ite_t, q_ite_f, beq_iff_eq, bne_iff_ne, q_ne, Nat.reduceAdd, Nat.reducePow, Int.reducePow, Nat.reduceMul, Nat.reduceSub, Nat.reduceLeDiff, Nat.reduceLT, Nat.reduceEqDiff, Int.reduceNeg, Int.reduceLT, Int.reduceLE, Int.reduceEq, Int.reduceNe, Int.reduceAdd, Int.reduceSub, Int.reduceMul, Int.reduceToNat, Int.reduceBEq, Int.reduceBNe, List.map_cons, List.map_nil, Blk.ren, MB, MW, S_ren, R.unl_s, wc_ren, List.drop_succ_cons, List.drop_zero]
    · simp (config := { maxSteps := 10000000 }) only [EV1, EV2, EV3, EV4, EV5, EV6, addT, istep, lenR_sl, lenR_ns, lenR_es, pickR, putD, bin1R, un1R, slcR, bnd, capsOf, fillP, S_plain, V_plain, V.cells, S_known, V_known, C.v, blk, setL, setH, eqS, eq1, cmpS, cmp1, isNil, popTo, killT, setT, leT, V.below, C.below, S_below, R.below, V.val, C.val, S_val, R.val, R.takes, vals, shows, List.any_cons, List.any_nil, unnamed, V.kill, V.names, C.names, S_names, R.names, List.set, List.replicate, ↓q_cond_t, ↓q_cond_f, if_true, if_false, reduceCtorEq, rvals, rvC, result, C_known, V.noL, C.noL, S_noL, R.noL, Option.map, true_and, and_true, ge_iff_le, gt_iff_lt, implies_true, q_ite_t, q_ite_f, beq_iff_eq, bne_iff_ne, q_ne, Nat.reduceAdd, Nat.reducePow, Int.reducePow, Nat.reduceMul, Nat.reduceSub, Nat.reduceLeDiff, Nat.reduceLT, Nat.reduceEqDiff, Int.reduceNeg, Int.reduceLT, Int.reduceLE, Int.reduceEq, Int.reduceNe, Int.reduceAdd, Int.reduceSub, Int.reduceMul, Int.reduceToNat, Int.reduceBEq, Int.reduceBNe, List.drop_succ_cons, List.drop_zero]
    · simp (config := { maxSteps := 10000000 }) only [EV1, EV2, EV3, EV4, EV5, EV6, addT, istep, lenR_sl, lenR_ns, lenR_es, pickR, putD, bin1R, un1R, slcR, bnd, capsOf, fillP, S_plain, V_plain, V.cells, S_known, V_known, C.v, blk, setL, setH, eqS, eq1, cmpS, cmp1, isNil, popTo, killT, setT, leT, V.below, C.below, S_below, R.below, V.val, C.val, S_val, R.val, R.takes, vals, shows, List.any_cons, List.any_nil, unnamed, V.kill, V.names, C.names, S_names, R.names, List.set, List.replicate, ↓q_cond_t, ↓q_cond_f, if_true, if_false, reduceCtorEq, rvals, rvC, result, C_known, V.noL, C.noL, S_noL, R.noL, Option.map, true_and, and_true, ge_iff_le, gt_iff_lt, implies_true, q_ite_t, q_ite_f, beq_iff_eq, bne_iff_ne, q_ne, Nat.reduceAdd, Nat.reducePow, Int.reducePow, Nat.reduceMul, Nat.reduceSub, Nat.reduceLeDiff, Nat.reduceLT, Nat.reduceEqDiff, Int.reduceNeg, Int.reduceLT, Int.reduceLE, Int.reduceEq, Int.reduceNe, Int.reduceAdd, Int.reduceSub, Int.reduceMul, Int.reduceToNat, Int.reduceBEq, Int.reduceBNe, List.map_cons, List.map_nil, V.ren, S_ren, R.unl_s, setT]
    · simp (config := { maxSteps := 10000000 }) only [EV1, EV2, EV3, EV4, EV5, EV6, addT, istep, lenR_sl, lenR_ns, lenR_es, pickR, putD, bin1R, un1R, slcR, bnd, capsOf, fillP, S_plain, V_plain, V.cells, S_known, V_known, C.v, blk, setL, setH, eqS, eq1, cmpS, cmp1, isNil, popTo, killT, setT, leT, V.below, C.below, S_below, R.below, V.val, C.val, S_val, R.val, R.takes, vals, shows, List.any_cons, List.any_nil, unnamed, V.kill, V.names, C.names, S_names, R.names, List.set, List.replicate, ↓q_cond_t, ↓q_cond_f, if_true, if_false, reduceCtorEq, rvals, rvC, result, C_known, V.noL, C.noL, S_noL, R.noL, Option.map, true_and, and_true, ge_iff_le, gt_iff_lt, implies_true, q_ite_t, q_ite_f, beq_iff_eq, bne_iff_ne, q_ne, Nat.reduceAdd, Nat.reducePow, Int.reducePow, Nat.reduceMul, Nat.reduceSub, Nat.reduceLeDiff, Nat.reduceLT, Nat.reduceEqDiff, Int.reduceNeg, Int.reduceLT, Int.reduceLE, Int.reduceEq, Int.reduceNe, Int.reduceAdd, Int.reduceSub, Int.reduceMul, Int.reduceToNat, Int.reduceBEq, Int.reduceBNe, setT, nltn, app_len]
    · simp only [clean_cons, clean_nil, List.length_cons, List.length_nil, Nat.reduceAdd, Nat.zero_add, vals_MB, MW_vals, Bool.and_true, Nat.reduceLT, decide_true]
  · exact hS.elim
end Go.Proofs.Ytdlloccodmdnnaa

/- Cspace: plain facts of lookups. -/
namespace Go.Proofs.Ytdlloccodmdnnaa
open Go.D
set_option linter.all false
set_option maxRecDepth 100000
set_option maxHeartbeats 4000000

/-! ### rights -/
theorem ofInt_wrap (n : Int) : BitVec.ofInt 64 (IntKind.i64.wrap n) = BitVec.ofInt 64 n := by
  apply BitVec.eq_of_toNat_eq
  rw [BitVec.toNat_ofInt, BitVec.toNat_ofInt, IntKind.wrap_i64]
  congr 1
  simp only [Nat.reducePow]
  omega
theorem ofInt_toNat (v : BitVec 64) : BitVec.ofInt 64 (v.toNat : Int) = v := by
  apply BitVec.eq_of_toNat_eq
  rw [BitVec.ofInt_natCast, BitVec.toNat_ofNat]
  exact Nat.mod_eq_of_lt v.isLt
theorem bits_and_i64 (a b : Int) : bits .and .i64 a b = IntKind.i64.wrap ((BitVec.ofInt 64 a &&& BitVec.ofInt 64 b).toNat : Int) := rfl
theorem bits_andNot_i64 (a b : Int) : bits .andNot .i64 a b = IntKind.i64.wrap ((BitVec.ofInt 64 a &&& ~~~BitVec.ofInt 64 b).toNat : Int) := rfl
theorem and_and_i64 (x r s : Int) : bits .and .i64 (bits .and .i64 x r) s = bits .and .i64 x (bits .and .i64 r s) := by
  rw [bits_and_i64 x r, bits_and_i64 r s, bits_and_i64, bits_and_i64, ofInt_wrap, ofInt_wrap, ofInt_toNat, ofInt_toNat, BitVec.and_assoc]
theorem and_less_i64 (x r : Int) : bits .andNot .i64 (bits .and .i64 x r) x = 0 := by
  rw [bits_and_i64 x r, bits_andNot_i64, ofInt_wrap, ofInt_toNat]
  have : (BitVec.ofInt 64 x &&& BitVec.ofInt 64 r &&& ~~~BitVec.ofInt 64 x) = 0#64 := by
    ext i hi
    simp only [BitVec.getElem_and, BitVec.getElem_not, BitVec.getElem_zero]
    cases (BitVec.ofInt 64 x)[i] <;> cases (BitVec.ofInt 64 r)[i] <;> rfl
  rw [this]; rfl
theorem not_less_i64 (x : Int) : bits .andNot .i64 x x = 0 := by
  rw [bits_andNot_i64]
  have : (BitVec.ofInt 64 x &&& ~~~BitVec.ofInt 64 x) = 0#64 := by
    ext i hi
    simp only [BitVec.getElem_and, BitVec.getElem_not, BitVec.getElem_zero]
    cases (BitVec.ofInt 64 x)[i] <;> rfl
  rw [this]; rfl
theorem Cap.mask_mask (c : Cap) (r s : Int) : (c.mask r).mask s = c.mask (Go.bits .and .i64 r s) := by
  unfold Cap.mask
  by_cases h : c.ty = 4 ∨ c.ty = 5 ∨ c.ty = 8
  · rw [if_pos h, if_pos h, if_pos h]
    simp only [and_and_i64]
  · rw [if_neg h, if_neg h, if_neg h]
theorem Cap.mask_less (c : Cap) (r : Int) : Go.bits .andNot .i64 (c.mask r).rights c.rights = 0 := by
  unfold Cap.mask
  split
  · exact and_less_i64 _ _
  · exact not_less_i64 _
theorem cap_eqB (c : Cap) : (c.ty == c.ty && (c.obj == c.obj && (c.bits == c.bits && (c.mark == c.mark && (c.guard == c.guard && (c.gbits == c.gbits && (c.badge == c.badge && (c.rights == c.rights && (c.asid == c.asid && (c.vaddr == c.vaddr && c.line == c.line)))))))))) = true := by simp

/-! ### how much is read -/
def Ran (m k : M) (j : Nat) : Prop := k.w = m.w ∧ ((j = 0 ∧ k.n = m.n) ∨ k.n = IntKind.i64.wrap (m.n + 4 * j))
theorem Ran.refl (m : M) : Ran m m 0 := ⟨rfl, .inl ⟨rfl, rfl⟩⟩
theorem Ran.trans {m k l : M} {i j : Nat} (H : Ran m k i) (H' : Ran k l j) : Ran m l (i + j) := by
  obtain ⟨w1, h1⟩ := H
  obtain ⟨w2, h2⟩ := H'
  refine ⟨w2.trans w1, ?_⟩
  rcases h1 with ⟨rfl, h1⟩ | h1
  · rcases h2 with ⟨rfl, h2⟩ | h2
    · exact .inl ⟨rfl, h2.trans h1⟩
    · right; rw [h2, h1]; simp
  · rcases h2 with ⟨rfl, h2⟩ | h2
    · right; rw [h2, h1]; rfl
    · right
      rw [h2, h1, IntKind.wrap_i64, IntKind.wrap_i64, IntKind.wrap_i64]
      omega
theorem Ran.get (m : M) (a : Int) : ∃ j, j ≤ 1 ∧ Ran m (m.getX a) j := by
  unfold M.getX
  split
  · exact ⟨1, Nat.le_refl _, rfl, .inr rfl⟩
  · exact ⟨0, by omega, Ran.refl m⟩
theorem Ran.steps {m k : M} {j : Nat} (H : Ran m k j) (hj : j ≤ 32) : IntKind.i64.wrap (k.n - m.n) ≤ 128 := by
  rcases H.2 with ⟨_, h⟩ | h
  · rw [h, Int.sub_self]; decide
  · rw [h, IntKind.wrap_i64, IntKind.wrap_i64]; omega
theorem way_ran (d : Bool) (w : Int) : ∀ (f : Nat) (m : M) (c : Cap) (n : Int), rightB c = true → c.ty = 2 → 0 < n → ∃ j : Nat, j ≤ n.toNat ∧ Ran m (way d w f m c n).m j
  | 0, m, _, _, _, _, _ => ⟨0, Nat.zero_le _, Ran.refl m⟩
  | f + 1, m, c, n, hr, ht, hn => by
    obtain ⟨h1, h2, hb⟩ := node_facts hr ht
    have hg := hb.gbits
    rw [way]
    split; · exact ⟨0, Nat.zero_le _, Ran.refl m⟩
    split; · exact ⟨0, Nat.zero_le _, Ran.refl m⟩
    split; · exact ⟨0, Nat.zero_le _, Ran.refl m⟩
    split
    · cases d
      · exact ⟨0, Nat.zero_le _, Ran.refl m⟩
      · obtain ⟨j, hj, H⟩ := Ran.get m (wayA w c n)
        exact ⟨j, by omega, H⟩
    obtain ⟨j, hj, H⟩ := Ran.get m (wayA w c n)
    split
    · rename_i he
      obtain ⟨i, hi, H'⟩ := way_ran d w f (m.getX (wayA w c n)) (m.getV (wayA w c n)).cap (n - c.gbits - c.bits) (M.getV_right he.1) he.2 (by omega)
      exact ⟨j + i, by omega, H.trans H'⟩
    · exact ⟨j, by omega, H⟩
theorem rsl_ran (d : Bool) (m : M) (c : Cap) (w n : Int) : ∃ j : Nat, j ≤ 32 ∧ Ran m (rsl d m c w n).m j := by
  unfold rsl
  split; · exact ⟨0, by omega, Ran.refl m⟩
  split; · exact ⟨0, by omega, Ran.refl m⟩
  rename_i h1 h2
  have hr : rightB c = true := Classical.byContradiction fun h => h1 (.inr (by simpa using h))
  have ht : c.ty = 2 := Classical.byContradiction fun h => h1 (.inl h)
  obtain ⟨j, hj, H⟩ := way_ran d w 32 m c n hr ht (by omega)
  exact ⟨j, by omega, H⟩
theorem rsl_w (d : Bool) (m : M) (c : Cap) (w n : Int) : (rsl d m c w n).m.w = m.w := by
  obtain ⟨_, _, H⟩ := rsl_ran d m c w n
  exact H.1

/-! ### what is told hangs on the words alone -/
def RW.same (x y : RW) : Prop := x.s = y.s ∧ x.l = y.l ∧ x.e = y.e
theorem way_same (w : Int) (d d' : Bool) : ∀ (f : Nat) (m k : M) (c : Cap) (n : Int), m.w = k.w → (way d w f m c n).same (way d' w f k c n)
  | 0, m, k, c, n, _ => ⟨rfl, rfl, rfl⟩
  | f + 1, m, k, c, n, hw => by
    rw [way, way, M.getE_w hw, M.getV_w hw]
    split; · exact ⟨rfl, rfl, rfl⟩
    split; · exact ⟨rfl, rfl, rfl⟩
    split; · exact ⟨rfl, rfl, rfl⟩
    split; · exact ⟨rfl, rfl, rfl⟩
    split
    · exact way_same w d d' f _ _ _ _ (by rw [M.getX_w', M.getX_w', hw])
    · exact ⟨rfl, rfl, rfl⟩
theorem rsl_same {d d' : Bool} {m k : M} (c : Cap) (w n : Int) (h : m.w = k.w) : (rsl d m c w n).same (rsl d' k c w n) := by
  unfold rsl
  split; · exact ⟨rfl, rfl, rfl⟩
  split; · exact ⟨rfl, rfl, rfl⟩
  exact way_same w d d' 32 m k c n h
theorem RW.slE_same {x y : RW} (h : x.same y) : x.slE = y.slE ∧ x.slV = y.slV := by
  obtain ⟨h1, h2, h3⟩ := h
  unfold RW.slE RW.slV
  rw [h1, h2, h3]; exact ⟨rfl, rfl⟩
theorem RW.cap_same {x y : RW} (h : x.same y) (hw : x.m.w = y.m.w) : x.cap.c = y.cap.c ∧ x.cap.s = y.cap.s ∧ x.cap.e = y.cap.e ∧ x.cap.m.w = y.cap.m.w := by
  obtain ⟨h1, h2, h3⟩ := h
  unfold RW.cap
  rw [h1, h3, M.getE_w hw, M.getV_w hw]
  split; · exact ⟨rfl, rfl, rfl, hw⟩
  split; · exact ⟨rfl, rfl, rfl, by rw [M.getX_w', M.getX_w', hw]⟩
  split; · exact ⟨rfl, rfl, rfl, by rw [M.getX_w', M.getX_w', hw]⟩
  exact ⟨rfl, rfl, rfl, by rw [M.getX_w', M.getX_w', hw]⟩
theorem RW.cap_w (x : RW) : x.cap.m.w = x.m.w := by
  unfold RW.cap
  split; · rfl
  split; · exact M.getX_w' _ _
  split; · exact M.getX_w' _ _
  exact M.getX_w' _ _

/-! ### another guard -/
theorem right_guard {c : Cap} {g : Int} (h : rightB c = true) (ht : c.ty = 2) (hg : 0 ≤ g ∧ g < 2 ^ c.gbits.toNat) : rightB { c with guard := g } = true := by
  have hb := (right_bounds h).gbits
  unfold rightB at h ⊢
  simp only at h ⊢
  rw [if_neg (by omega), if_neg (by omega), if_pos ht] at h ⊢
  split at h
  · cases h
  · rename_i hn
    rw [if_neg hn]
    split at h
    · cases h
    · rename_i hn2
      rw [if_neg hn2]
      simp only [Bool.and_eq_true, inV_iff] at h ⊢
      refine ⟨h.1, hg.1, ?_⟩
      have key : ∀ k : Fin 32, IntKind.i64.wrap (IntKind.i64.wrap (1 * 2 ^ min k.val IntKind.i64.bits) - 1) = 2 ^ k.val - 1 := by decide +kernel
      have := key ⟨c.gbits.toNat, by omega⟩
      simp only at this
      rw [this]; omega
theorem rsl_guard {m k : M} {c : Cap} {w n g : Int} (he : (rsl false m c w n).e = 0) (hg : 0 ≤ g ∧ g < 2 ^ c.gbits.toNat) (hne : ¬ g = c.guard) : rsl false k { c with guard := g } w n = ⟨0, 0, 102, k⟩ := by
  by_cases h : c.ty = 2 ∧ rightB c = true
  case neg => rw [rsl_no h] at he; simp at he
  obtain ⟨ht, hr⟩ := h
  by_cases hd : n < 1 ∨ 32 < n
  · rw [rsl_deep ht hr hd] at he; simp at he
  rw [rsl_way ht hr hd] at he
  have hr2 := right_guard hr ht hg
  rw [rsl_way (c := { c with guard := g }) ht hr2 hd]
  rw [way] at he ⊢
  simp only
  split at he
  · simp at he
  rename_i h1
  rw [if_neg h1]
  split at he
  · simp at he
  rename_i h2
  rw [if_pos]
  intro e
  exact hne (e.symm.trans (Classical.not_not.1 h2))

/-! ### more bits -/
theorem someB_shift {w t p k r : Nat} (h : p + r + k ≤ 64) : (2 ^ r * (w % 2 ^ (64 - r)) + t % 2 ^ r) / 2 ^ (p + r) % 2 ^ k = w / 2 ^ p % 2 ^ k := by
  rw [Nat.add_comm p r, Nat.pow_add, ← Nat.div_div_eq_div_mul, Nat.mul_add_div (Nat.two_pow_pos r), Nat.div_eq_of_lt (Nat.mod_lt t (Nat.two_pow_pos r)), Nat.add_zero]
  rw [show 64 - r = p + (64 - r - p) by omega, Nat.pow_add, Nat.mod_mul_right_div_self, Nat.mod_mod_of_dvd]
  exact Nat.pow_dvd_pow 2 (by omega)
/-- An address with so many bits more. -/
def moreW (w t r : Nat) : Nat := 2 ^ r * (w % 2 ^ (64 - r)) + t % 2 ^ r
theorem someB_more {w t r : Nat} {p k : Int} (hp : 0 ≤ p) (hk : 0 ≤ k) (h : p + r + k ≤ 64) : someB (moreW w t r) (p + r) k = someB w p k := by
  obtain ⟨p, rfl⟩ : ∃ a : Nat, p = a := ⟨p.toNat, by omega⟩
  obtain ⟨k, rfl⟩ : ∃ a : Nat, k = a := ⟨k.toNat, by omega⟩
  rw [show (p : Int) + (r : Int) = ((p + r : Nat) : Int) by omega, someB_nat, someB_nat, moreW, someB_shift (by omega)]
theorem way_more {w t r : Nat} (hr0 : 0 < r) (d : Bool) : ∀ (f : Nat) (m : M) (c : Cap) (n : Int), rightB c = true → c.ty = 2 → 0 < n → n ≤ f → n + r ≤ 32 → (way d w f m c n).e = 0 →
    ((m.getE (way d w f m c n).s = 0 ∧ (m.getV (way d w f m c n).s).cap.ty = 2) → (way d w f m c n).l = 0) ∧
    (¬ (m.getE (way d w f m c n).s = 0 ∧ (m.getV (way d w f m c n).s).cap.ty = 2) → (way d (moreW w t r) f m c (n + r)).e = 0 ∧ (way d (moreW w t r) f m c (n + r)).s = (way d w f m c n).s ∧ (way d (moreW w t r) f m c (n + r)).l = (way d w f m c n).l + r)
  | 0, m, c, n, _, _, h1, h2, _, _ => by omega
  | f + 1, m, c, n, hr, ht, hn, hf, hnr, he => by
    obtain ⟨h1, h2, hb⟩ := node_facts hr ht
    have hg := hb.gbits
    have hA : n - c.gbits < c.bits ∨ wayA (moreW w t r) c (n + r) = wayA w c n := by
      by_cases h : n - c.gbits < c.bits
      · exact .inl h
      · right
        unfold wayA
        rw [show n + (r : Int) - c.gbits - c.bits = (n - c.gbits - c.bits) + r by omega, someB_more (by omega) (by omega) (by omega)]
    rw [way] at he ⊢
    rw [way]
    split at he
    · simp at he
    rename_i g1
    rw [if_neg g1, if_neg (show ¬ n + (r : Int) < c.gbits by omega)]
    split at he
    · simp at he
    rename_i g2
    have e2 : someB (moreW w t r) (n + r - c.gbits) c.gbits = someB w (n - c.gbits) c.gbits := by
      rw [show n + (r : Int) - c.gbits = (n - c.gbits) + r by omega, someB_more (by omega) (by omega) (by omega)]
    rw [if_neg g2, e2, if_neg g2]
    split at he
    · simp at he
    rename_i g3
    rw [if_neg g3, if_neg (show ¬ n + (r : Int) - c.gbits < c.bits by omega)]
    have hA := hA.resolve_left g3
    rw [if_neg (show ¬ n + (r : Int) - c.gbits - c.bits = 0 by omega), hA]
    split at he
    · rename_i g4
      rw [if_pos g4]
      simp only
      refine ⟨fun _ => by trivial, fun hx => ?_⟩
      rw [if_neg hx]
      refine ⟨by trivial, by trivial, ?_⟩
      simp only
      omega
    · rename_i g4
      rw [if_neg g4]
      split at he
      · rename_i g5
        rw [if_pos g5, if_pos g5]
        have ih := way_more (w := w) (t := t) hr0 d f (m.getX (wayA w c n)) (m.getV (wayA w c n)).cap (n - c.gbits - c.bits) (M.getV_right g5.1) g5.2 (by omega) (by omega) (by omega) he
        rw [M.getX_getE, M.getX_getV, show n - c.gbits - c.bits + (r : Int) = n + r - c.gbits - c.bits by omega] at ih
        exact ih
      · rename_i g5
        rw [if_neg g5, if_neg g5]
        refine ⟨fun hx => absurd hx g5, fun _ => ⟨rfl, rfl, by simp only; omega⟩⟩
end Go.Proofs.Ytdlloccodmdnnaa

