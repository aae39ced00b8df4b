/- DeriveLess: for every input the law's Go function answers true, and its arguments read behind the call as before. No conditions. -/
import Derived.Test.YtpmobbehdpgnbaaGreatRows
import Derived.Test.YtpmobbehdpgnbaaGreatZ30
import Derived.Test.YtpmobbehdpgnbaaGreatZ31
import Derived.Test.YtpmobbehdpgnbaaGreatZ10
/- DerivePlays: for every input the law's Go function answers true, and its arguments read behind the call as before. No conditions. -/
namespace Go.Proofs.YtpmobbehdpgnbaaGreat
open Go.D
set_option linter.all false
set_option maxRecDepth 100000

theorem lawC {h : List Blk} {x : Bool × List TY} {xs : List (Bool × List TY)} {us : List V} (H : hasVs h (x :: xs) us) : ∃ u vs, us = u :: vs ∧ hasV h x u ∧ hasVs h xs vs := by
  match us, H with
  | u :: vs, H => exact ⟨u, vs, rfl, H.1, H.2⟩
  | [], H => exact H.elim
theorem lawN {h : List Blk} {us : List V} (H : hasVs h [] us) : us = [] := by
  match us, H with
  | [], _ => rfl
  | _ :: _, H => exact H.elim
theorem i64_b {n : Int} (h : (Lit.int .i64 n).wf = true) : i64b n := by
  have e : (decide ((-9223372036854775808 : Int) ≤ n) && decide (n ≤ 9223372036854775807)) = true := h
  simp only [Bool.and_eq_true, decide_eq_true_eq] at e
  unfold i64b; omega
def ActT : List TY := [.int .i64, .int .i64, .int .i64, .int .i64, .int .i64, .int .i64, .int .i64, .int .i64]
theorem hasTs_act {h : List Blk} {ss : List S} (H0 : hasTs h ActT ss) : ∃ o : Act, ss = o.cl ∧ o.u := by
  unfold ActT at H0
  obtain ⟨_, _, rfl, ⟨x0, rfl, h0⟩, H1⟩ := hasTs_cons H0
  obtain ⟨_, _, rfl, ⟨x1, rfl, h1⟩, H2⟩ := hasTs_cons H1
  obtain ⟨_, _, rfl, ⟨x2, rfl, h2⟩, H3⟩ := hasTs_cons H2
  obtain ⟨_, _, rfl, ⟨x3, rfl, h3⟩, H4⟩ := hasTs_cons H3
  obtain ⟨_, _, rfl, ⟨x4, rfl, h4⟩, H5⟩ := hasTs_cons H4
  obtain ⟨_, _, rfl, ⟨x5, rfl, h5⟩, H6⟩ := hasTs_cons H5
  obtain ⟨_, _, rfl, ⟨x6, rfl, h6⟩, H7⟩ := hasTs_cons H6
  obtain ⟨_, _, rfl, ⟨x7, rfl, h7⟩, H8⟩ := hasTs_cons H7
  obtain rfl := hasTs_nil H8
  exact ⟨⟨x0, x1, x2, x3, x4, x5, x6, x7⟩, rfl, i64_b h1, i64_b h2, i64_b h3⟩
theorem derivePlays_law : Law derivePlaysS [(false, [.slice ActT])] := by
  intro h us H hc
  obtain ⟨_, _, rfl, H1, H⟩ := lawC H
  obtain rfl := lawN H
  obtain ⟨s, L, rfl, e1, e2, e3⟩ := hasV_slice (c := Act.cl) (p := Act.u) (fun ss h => hasTs_act h) H1
  exact ⟨s, L, rfl, e1, e2, by omega, fun _ => rfl⟩
end Go.Proofs.YtpmobbehdpgnbaaGreat

/- Law 12: DeriveOrder: the walk. -/
namespace Go.Proofs.YtpmobbehdpgnbaaGreat
open Go.D
set_option linter.all false
set_option maxRecDepth 100000
set_option maxHeartbeats 8000000

theorem exit2 {i n lim : Nat} (h : ¬ (i < n ∧ i < lim)) : ((((i : Int) < (n : Int)) = True ∧ ((i : Int) < (lim : Int)) = False) ∨ (((i : Int) < (n : Int)) = False ∧ ((i : Int) < (n : Int)) = False)) := by
  by_cases h1 : i < n
  · left
    exact ⟨eq_true (by omega), eq_false (by omega)⟩
  · right
    exact ⟨eq_false (by omega), eq_false (by omega)⟩
end Go.Proofs.YtpmobbehdpgnbaaGreat

/- Law 12: DeriveLess: the walk. -/
namespace Go.Proofs.YtpmobbehdpgnbaaGreat
open Go.D
open Nat (reduceAdd reducePow reduceMul reduceSub reduceLeDiff reduceLT reduceEqDiff)
open Int (reduceNeg reduceLE reduceEq reduceNe reduceToNat)
open Go.D renaming istep → zy, pickR → zx, bin1R → zw, un1R → zv, eqS → zu, eq1 → zq, cmpS → zp, cmp1 → zj, isNil → zk, shows → zg, result → zZ, q_cond_t → zV, q_cond_f → zU
open List renaming set → zY, replicate → zX
open Option renaming map → zW
open Nat renaming reduceAdd → zQ, reducePow → yz, reduceMul → yy, reduceSub → yx, reduceLeDiff → yw, reduceLT → yv, reduceEqDiff → yu
open Int renaming reduceNeg → yq, reduceLE → yj, reduceEq → yk, reduceNe → yg, reduceToNat → yZ, reducePow → yY, reduceLT → yX, reduceAdd → yW, reduceSub → yV, reduceMul → yU, reduceBEq → yQ, reduceBNe → xz
set_option linter.all false
set_option maxRecDepth 100000
set_option maxHeartbeats 8000000

theorem plc_nat : ∀ i : Nat, i < 44 → plcV ((i : Nat) : Int) = placeN i := by decide
theorem capsL_get (m : M) {i : Nat} (h : i < 44) : (m.capsL 44)[i]? = some (m.gV (plcV i)).cap := by
  unfold M.capsL
  rw [List.getElem?_map, List.getElem?_range h]; rfl
theorem capsL_sub (m : M) {i : Nat} (h : i < 44) : sub (arr Cap.cl (m.capsL 44)) (i * 11) 11 = (m.gV (plcV i)).cap.cl := by
  have hl : i < (m.capsL 44).length := by rw [M.capsL_len]; exact h
  rw [arr_sub capcl_len hl]
  have := capsL_get m h
  rw [List.getElem?_eq_getElem hl, Option.some.injEq] at this
  rw [this]
def mtB (c b : Cap) : Bool := b.ty == c.ty && (b.obj == c.obj && (bits .andNot .i64 c.rights b.rights == 0 && (b.badge == c.badge || b.badge == 0)))
theorem Fine.found {m : M} {C : Int → Cap} (F : Fine m C) {k : Nat} (hk : k < 44) : ((C (plcV k)).ty == 0) = true ∨ ∃ j : Nat, j < 44 ∧ mtB (C (plcV k)) (m.gV (plcV j)).cap = true := by
  have hP : plcV (k : Int) ∈ PL := by rw [plc_nat k hk]; exact placeN_PL k hk
  rcases F.le _ hP with h | ⟨j, hj, h1, h2, h3, h4⟩
  · left; simpa using h
  · obtain ⟨i, hi, rfl⟩ := PL_placeN j hj
    rw [← plc_nat i hi] at h1 h2 h3 h4
    refine .inr ⟨i, hi, ?_⟩
    simp only [mtB, h1, h2, h3, beq_self_eq_true, Bool.true_and]
    rcases h4 with h4 | h4
    · rw [h4, beq_self_eq_true]; rfl
    · rw [h4]; simp
theorem wH_clean3 {h : List Blk} (hc : clean h.length h = true) (m r : M) : clean (wH h m r []).length (wH h m r []) = true := by
  have h0 : ∀ n, h.length ≤ n → clean n h = true := fun n hn => by
    simp only [clean, List.all_eq_true] at hc ⊢
    exact fun B hB => vals_mono hn (Nat.le_refl _) (hc B hB)
  have l5 := wH_len h m r []
  rw [l5]
  have h1 := h0 (h.length + 5 + 0) (by omega)
  simp only [clean, List.all_eq_true] at h1
  simp only [wH, memH, clean, List.all_append, List.all_cons, List.all_nil, Bool.and_true, Bool.and_eq_true, MB, MW, wB, vals, S.val, R.val, List.length_append, List.length_cons, List.length_nil, decide_eq_true_eq]
  refine ⟨⟨⟨List.all_eq_true.2 h1, ?_, wc_vals _ _ _⟩, ?_, wc_vals _ _ _⟩, ?_, ?_⟩
  all_goals simp
theorem deriveLess_snd : Snd Tryz.prog 4 derivePlaysS := (fwp_sound (Tab.snd_Γ TPl_snd) mixed Tryz.func4 dc4).weaken fun args h K hc hS => by
  obtain ⟨s, L, rfl, Hs, hu, l1, hK⟩ := hS
  refine fwp_run (Tab.ok_Γ _) 400 ?_
  have hlen := fun ls h' => Hs.sl.len (ls := ls) (h := h')
  have hkn := Hs.sl.known
  have hnl := Hs.sl.noL
  have hbl := Hs.sl.below
  simp (config := {maxSteps := 9999999}) only [EV0, zy, zx, zw, zv, zu, zq, zp, zj, zk, leT, zg, rvC, zZ, zY, zX, zW, ↓zV, ↓zU, reduceCtorEq, zQ, yz, yY, yy, yx, yw, yv, yu, yq, yX, yj, yk, yg, yW, yV, yU, yZ, yQ, xz, df4, TPl, awake12G, basedG, ↓hlen, ↓hkn, ↓hnl]
  refine loop_rule (α := Nat × M × M) [2, 5, 6, 7, 8, 9, 10, 11, 12, 13, 18, 19, 20, 21, 22, 23, 24, 25, 26, 27, 28, 29, 30, 31, 32, 33, 34, 35, 36, 37, 38, 39, 40, 41, 42, 43, 44, 45, 46, 47, 48, 49, 50, 51, 52, 53, 54, 55, 56, 57, 58, 59, 60, 61, 62, 63, 64, 65, 66, 67, 68, 69, 70, 71, 72, 73, 74, 75, 76, 77, 78, 79, 80, 81, 82, 83, 84, 85, 86, 87, 88, 89, 90, 91, 92, 93, 94, 95, 96, 97, 98, 99, 100] (fun x => [(5, .s (.i .i64 (x.1 : Int)))]) (fun _ => []) (fun x => wH h x.2.1 x.2.2 []) (fun x => x.1 ≤ L.length ∧ x.2.2.w = x.2.1.w ∧ ∃ Q, DI x.2.1 Q) (fun x => L.length - x.1) (0, baseC, baseM) ⟨Nat.zero_le _, baseC_w.symm, DI_base⟩ ?_ ?_
  · refine Wk.same rfl rfl ?_
    simp (config := {maxSteps := 9999999}) only [EV0, zy, zx, zw, zv, zu, zq, zp, zj, zk, leT, zg, rvC, zZ, zY, zX, zW, ↓zV, ↓zU, reduceCtorEq, zQ, yz, yY, yy, yx, yw, yv, yu, yq, yX, yj, yk, yg, yW, yV, yU, yZ, yQ, xz, Int.natCast_zero]
  · rintro X ⟨i, m, r⟩ ⟨hi, hw, Q, D⟩ IH
    simp only at hi hw D ⊢
    by_cases h2 : i < L.length ∧ i < 100
    · obtain ⟨h1, h100⟩ := h2
      obtain ⟨d1, d2, d3, d4⟩ := idx h1 l1
      have c100 : (i : Int) < 100 := by omega
      obtain ⟨j, cc, st, room, hse, hj, hd⟩ := Hs.at h1
      obtain ⟨x, hx⟩ : ∃ x, nth actZ L i = x := ⟨_, rfl⟩
      have hxu : x.u := by rw [← hx]; exact hu _ (nth_mem h1)
      have hs : sub (arr Act.cl L) (i * 8) 8 = x.cl := by rw [← hx, nth_eq h1]; exact arr_sub Act.cl_len h1
      have hle : i * 8 + 8 ≤ (arr Act.cl L).length := by rw [arr_length Act.cl_len]; omega
      simp only [Act.cl] at hs
      have D2 := D.of_w (M.gets_w m 44)
      have hw2 : r.w = (m.gets 44).w := hw.trans (M.gets_w m 44).symm
      obtain ⟨e1, Cf, hD, hF⟩ := D2.act hw2 hxu
      obtain ⟨m2, hm2⟩ : ∃ m2, m.gets 44 = m2 := ⟨_, rfl⟩
      rw [hm2] at D2 hw2 e1 hD hF
      obtain ⟨m3, hm3⟩ : ∃ m3, (m2.act x).2 = m3 := ⟨_, rfl⟩
      obtain ⟨r3, hr3⟩ : ∃ r3, (r.ract x).2 = r3 := ⟨_, rfl⟩
      rw [hm3, hr3] at hD
      obtain ⟨m4, hm4⟩ : ∃ m4, m3.gets 44 = m4 := ⟨_, rfl⟩
      have w4 : m4.w = m3.w := by rw [← hm4]; exact M.gets_w m3 44
      have hq : ((m2.act x).1 == (r.ract x).1) = true := by rw [e1]; exact beq_self_eq_true _
      have hob : ∀ m r X, (wH h m r X)[j]? = _ := fun m r X => wH_old hj m r X
      obtain ⟨A, hA⟩ : ∃ A, arr Cap.cl (m.capsL 44) = A := ⟨_, rfl⟩
      obtain ⟨B, hB⟩ : ∃ B, arr Cap.cl (m3.capsL 44) = B := ⟨_, rfl⟩
      have hAl : A.length = 484 := by rw [← hA, arr_length capcl_len, M.capsL_len]
      have hBl : B.length = 484 := by rw [← hB, arr_length capcl_len, M.capsL_len]
      subst hse
      refine run_sound (Tab.ok_Γ _) 300 _ _ _ _ ?_
      simp (config := {maxSteps := 9999999}) only [EV0, zy, zx, zw, zv, zu, zq, zp, zj, zk, leT, zg, rvC, zZ, zY, zX, zW, ↓zV, ↓zU, reduceCtorEq, zQ, yz, yY, yy, yx, yw, yv, yu, yq, yX, yj, yk, yg, yW, yV, yU, yZ, yQ, xz, TPl, doesG, doesM, actF, act_eta, all12G, allM, wldF_eq, wH_app, hm2, hm3, hr3, hm4, hA, hB, ↓hlen, ↓hkn, ↓hnl, d1, d2, d3, d4, c100, hob, hd, hs, hle, hq, Int.toNat_natCast]
      intro ca hca cb hcb
      have hI : ∀ k : Nat, k < 44 → k * 11 + 11 ≤ 484 := fun k hk => by omega
      have hgA : ∀ k : Nat, k < 44 → sub A (k * 11) 11 = (m.gV (plcV k)).cap.cl := fun k hk => by rw [← hA]; exact capsL_sub m hk
      have hgB : ∀ k : Nat, k < 44 → sub B (k * 11) 11 = (m3.gV (plcV k)).cap.cl := fun k hk => by rw [← hB]; exact capsL_sub m3 hk
      have hb5 : (wH h m4 r3 [⟨.rw, A, ca * 11⟩, ⟨.rw, B, cb * 11⟩])[h.length + 5]? = some ⟨.rw, A, ca * 11⟩ := by
        unfold wH; rw [List.getElem?_append_right (by simp only [memH_len]; omega)]; simp only [memH_len, show h.length + 5 - (h.length + 2 + 2) = 1 by omega]; rfl
      have hb6 : (wH h m4 r3 [⟨.rw, A, ca * 11⟩, ⟨.rw, B, cb * 11⟩])[h.length + 5 + 1]? = some ⟨.rw, B, cb * 11⟩ := by
        unfold wH; rw [List.getElem?_append_right (by simp only [memH_len]; omega)]; simp only [memH_len, show h.length + 5 + 1 - (h.length + 2 + 2) = 2 by omega]; rfl
      have hfd : ∀ k : Nat, k < 44 → ((m3.gV (plcV k)).cap.ty == 0) = true ∨ ∃ j : Nat, j < 44 ∧ mtB (m3.gV (plcV k)).cap (m.gV (plcV j)).cap = true := fun k hk => by
        have hP : plcV (k : Int) ∈ PL := by rw [plc_nat k hk]; exact placeN_PL k hk
        have h0 : plcV (k : Int) ≠ 0 := D2.n0 (PL_PB hP)
        have := hF.found hk
        rw [← hD.cap _ h0] at this
        rw [← hm2, gV_fun (M.gets_w m 44)] at this
        exact this
      refine loop_rule (α := Nat) [2, 9, 10, 11, 12, 13, 40, 41, 42, 43, 44, 45, 46, 47, 48, 49, 50, 51, 52, 53, 54, 55, 56, 57, 58, 59, 60, 61, 62, 63, 64, 65, 66, 67, 68, 69, 70, 71, 72, 73, 74, 75, 76, 77, 78, 79, 80, 81, 82, 83, 84, 85, 86, 87, 88, 89, 90, 91, 92, 93, 94, 95, 96, 97, 98, 99, 100] (fun k => [(9, .s (.i .i64 (k : Int)))]) (fun _ => []) (fun _ => wH h m4 r3 [⟨.rw, A, ca * 11⟩, ⟨.rw, B, cb * 11⟩]) (fun k => k ≤ 44) (fun k => 44 - k) 0 (Nat.zero_le _) (Wk.same rfl rfl ?_) ?_
      · simp (config := {maxSteps := 9999999}) only [EV0, zy, zx, zw, zv, zu, zq, zp, zj, zk, leT, zg, rvC, zZ, zY, zX, zW, ↓zV, ↓zU, reduceCtorEq, zQ, yz, yY, yy, yx, yw, yv, yu, yq, yX, yj, yk, yg, yW, yV, yU, yZ, yQ, xz, Int.natCast_zero, wH_len]
      · rintro Y k hk IHk
        rcases Nat.lt_or_ge k 44 with hkl | hkg
        · have I : (k : Int) < 44 := by omega
          have I0 : (0 : Int) ≤ k := by omega
          have I2 : IntKind.i64.wrap ((k : Int) + 1) = ((k + 1 : Nat) : Int) := by rw [wrap64] <;> omega
          have hsk := hgB k hkl
          have hkk := hI k hkl
          have hfk := hfd k hkl
          obtain ⟨⟨c0, o0, e0, f0, g0, i0, j0, k0, l0, m0, n0⟩, hck⟩ : ∃ s, (m3.gV (plcV k)).cap = s := ⟨_, rfl⟩
          rw [hck] at hsk hfk
          simp only [Cap.cl] at hsk
          refine run_sound (Tab.ok_Γ _) 300 _ _ _ _ ?_
          simp (config := {maxSteps := 9999999}) only [EV0, zy, zx, zw, zv, zu, zq, zp, zj, zk, leT, zg, rvC, zZ, zY, zX, zW, ↓zV, ↓zU, reduceCtorEq, zQ, yz, yY, yy, yx, yw, yv, yu, yq, yX, yj, yk, yg, yW, yV, yU, yZ, yQ, xz, TPl, wH_len, I, I0, hb5, hb6, hBl, hAl, hsk, hkk, Int.toNat_natCast, put, fillP, EVt]
          refine loop_rule (α := Nat × Bool) [11, 12, 13, 53, 54, 55, 56, 57, 58, 59, 60, 61, 62, 63, 64, 65, 66, 67, 68, 69, 70, 71, 72, 73, 74, 75, 76, 77, 78, 79, 80, 81, 82, 83, 84, 85, 86, 87, 88, 89, 90, 91, 92, 93, 94, 95, 96, 97, 98] (fun y => [(11, .s (.b y.2)), (12, .s (.i .i64 (y.1 : Int)))]) (fun _ => [⟨.rw, Cap.cl ⟨c0, o0, e0, f0, g0, i0, j0, k0, l0, m0, n0⟩, 11⟩]) (fun _ => wH h m4 r3 [⟨.rw, A, ca * 11⟩, ⟨.rw, B, cb * 11⟩]) (fun y => y.1 ≤ 44 ∧ (y.2 = false → (c0 == 0) = false ∧ ∀ j : Nat, j < y.1 → mtB ⟨c0, o0, e0, f0, g0, i0, j0, k0, l0, m0, n0⟩ (m.gV (plcV j)).cap = false)) (fun y => 44 - y.1) (0, c0 == 0) ⟨Nat.zero_le _, fun h => ⟨h, fun j hj => absurd hj (Nat.not_lt_zero j)⟩⟩ (Wk.same rfl rfl ?_) ?_
          · simp (config := {maxSteps := 9999999}) only [EV0, zy, zx, zw, zv, zu, zq, zp, zj, zk, leT, zg, rvC, zZ, zY, zX, zW, ↓zV, ↓zU, reduceCtorEq, zQ, yz, yY, yy, yx, yw, yv, yu, yq, yX, yj, yk, yg, yW, yV, yU, yZ, yQ, xz, Int.natCast_zero, Cap.cl]
          · rintro Z ⟨j', f⟩ ⟨hj', hf⟩ IH2
            simp only at hj' hf ⊢
            cases f with
            | true =>
              clear IH2
              by_cases hjl : j' < 44
              · have J : (j' : Int) < 44 := by omega
                refine run_sound (Tab.ok_Γ _) 300 _ _ _ _ ?_
                simp (config := {maxSteps := 9999999}) only [EV0, zy, zx, zw, zv, zu, zq, zp, zj, zk, leT, zg, rvC, zZ, zY, zX, zW, ↓zV, ↓zU, reduceCtorEq, zQ, yz, yY, yy, yx, yw, yv, yu, yq, yX, yj, yk, yg, yW, yV, yU, yZ, yQ, xz, TPl, wH_len, J, I2]
                exact IHk (k + 1) _ (by omega) (by omega) (Wk.keep 0 rfl rfl (by simp (config := {maxSteps := 9999999}) only [EV0, zy, zx, zw, zv, zu, zq, zp, zj, zk, leT, zg, rvC, zZ, zY, zX, zW, ↓zV, ↓zU, reduceCtorEq, zQ, yz, yY, yy, yx, yw, yv, yu, yq, yX, yj, yk, yg, yW, yV, yU, yZ, yQ, xz, wH_len, List.length_cons, List.length_nil]) (by simp (config := {maxSteps := 9999999}) only [EV0, zy, zx, zw, zv, zu, zq, zp, zj, zk, leT, zg, rvC, zZ, zY, zX, zW, ↓zV, ↓zU, reduceCtorEq, zQ, yz, yY, yy, yx, yw, yv, yu, yq, yX, yj, yk, yg, yW, yV, yU, yZ, yQ, xz, hbl]) (by simp))
              · have J : ¬ (j' : Int) < 44 := by omega
                refine run_sound (Tab.ok_Γ _) 300 _ _ _ _ ?_
                simp (config := {maxSteps := 9999999}) only [EV0, zy, zx, zw, zv, zu, zq, zp, zj, zk, leT, zg, rvC, zZ, zY, zX, zW, ↓zV, ↓zU, reduceCtorEq, zQ, yz, yY, yy, yx, yw, yv, yu, yq, yX, yj, yk, yg, yW, yV, yU, yZ, yQ, xz, TPl, wH_len, J, I2]
                exact IHk (k + 1) _ (by omega) (by omega) (Wk.keep 0 rfl rfl (by simp (config := {maxSteps := 9999999}) only [EV0, zy, zx, zw, zv, zu, zq, zp, zj, zk, leT, zg, rvC, zZ, zY, zX, zW, ↓zV, ↓zU, reduceCtorEq, zQ, yz, yY, yy, yx, yw, yv, yu, yq, yX, yj, yk, yg, yW, yV, yU, yZ, yQ, xz, wH_len, List.length_cons, List.length_nil]) (by simp (config := {maxSteps := 9999999}) only [EV0, zy, zx, zw, zv, zu, zq, zp, zj, zk, leT, zg, rvC, zZ, zY, zX, zW, ↓zV, ↓zU, reduceCtorEq, zQ, yz, yY, yy, yx, yw, yv, yu, yq, yX, yj, yk, yg, yW, yV, yU, yZ, yQ, xz, hbl]) (by simp))
            | false =>
              obtain ⟨hz, hno⟩ := hf rfl
              have hlt : j' < 44 := by
                rcases Nat.lt_or_ge j' 44 with h | h
                · exact h
                · exfalso
                  rcases hfk with h2 | ⟨q, hq1, hq2⟩
                  · rw [hz] at h2; cases h2
                  · rw [hno q (by omega)] at hq2; cases hq2
              have J : (j' : Int) < 44 := by omega
              have J0 : (0 : Int) ≤ j' := by omega
              have J2 : IntKind.i64.wrap ((j' : Int) + 1) = ((j' + 1 : Nat) : Int) := by rw [wrap64] <;> omega
              have hsj := hgA j' hlt
              have hjj := hI j' hlt
              obtain ⟨⟨b0, b1, b2, b3, b4, b5, b6, b7, b8, b9, b10⟩, hbk⟩ : ∃ s, (m.gV (plcV j')).cap = s := ⟨_, rfl⟩
              rw [hbk] at hsj
              simp only [Cap.cl] at hsj
              have hmt : mtB ⟨c0, o0, e0, f0, g0, i0, j0, k0, l0, m0, n0⟩ ⟨b0, b1, b2, b3, b4, b5, b6, b7, b8, b9, b10⟩ = ((b0 == c0) && ((b1 == o0) && ((bits .andNot .i64 k0 b7 == 0) && ((b6 == j0) || (b6 == 0))))) := rfl
              obtain ⟨f1, hf1⟩ : ∃ f, (b0 == c0) = f := ⟨_, rfl⟩
              obtain ⟨f2, hf2⟩ : ∃ f, (b1 == o0) = f := ⟨_, rfl⟩
              obtain ⟨f3, hf3⟩ : ∃ f, (bits .andNot .i64 k0 b7 == 0) = f := ⟨_, rfl⟩
              obtain ⟨f4, hf4⟩ : ∃ f, (b6 == j0) = f := ⟨_, rfl⟩
              obtain ⟨f5, hf5⟩ : ∃ f, (b6 == 0) = f := ⟨_, rfl⟩
              rw [hf1, hf2, hf3, hf4, hf5] at hmt
              refine run_sound (Tab.ok_Γ _) 300 _ _ _ _ ?_
              have hnx : ∀ j : Nat, j < j' + 1 → mtB ⟨c0, o0, e0, f0, g0, i0, j0, k0, l0, m0, n0⟩ (m.gV (plcV j')).cap = false → mtB ⟨c0, o0, e0, f0, g0, i0, j0, k0, l0, m0, n0⟩ (m.gV (plcV j)).cap = false := fun j hj h => by
                rcases Nat.lt_or_ge j j' with h2 | h2
                · exact hno j h2
                · have : j = j' := by omega
                  rw [this]; exact h
              rw [hbk] at hnx
              cases f1
              case false =>
                simp (config := {maxSteps := 9999999}) only [EV0, zy, zx, zw, zv, zu, zq, zp, zj, zk, leT, zg, rvC, zZ, zY, zX, zW, ↓zV, ↓zU, reduceCtorEq, zQ, yz, yY, yy, yx, yw, yv, yu, yq, yX, yj, yk, yg, yW, yV, yU, yZ, yQ, xz, TPl, Cap.cl, wH_len, J, J0, J2, hb5, hb6, hBl, hAl, hsj, hjj, hf1, Int.toNat_natCast, put, fillP, EVt]
                exact IH2 (j' + 1, false) _ (by simp only; omega) ⟨by simp only; omega, fun _ => ⟨hz, fun j hj => hnx j hj (by rw [hmt]; rfl)⟩⟩ (Wk.keep 1 (by rfl) rfl (by simp (config := {maxSteps := 9999999}) only [EV0, zy, zx, zw, zv, zu, zq, zp, zj, zk, leT, zg, rvC, zZ, zY, zX, zW, ↓zV, ↓zU, reduceCtorEq, zQ, yz, yY, yy, yx, yw, yv, yu, yq, yX, yj, yk, yg, yW, yV, yU, yZ, yQ, xz, wH_len, List.length_cons, List.length_nil]) (by simp (config := {maxSteps := 9999999}) only [EV0, zy, zx, zw, zv, zu, zq, zp, zj, zk, leT, zg, rvC, zZ, zY, zX, zW, ↓zV, ↓zU, reduceCtorEq, zQ, yz, yY, yy, yx, yw, yv, yu, yq, yX, yj, yk, yg, yW, yV, yU, yZ, yQ, xz, hbl]) (by simp [Cap.cl, S.below]))
              cases f2
              case false =>
                simp (config := {maxSteps := 9999999}) only [EV0, zy, zx, zw, zv, zu, zq, zp, zj, zk, leT, zg, rvC, zZ, zY, zX, zW, ↓zV, ↓zU, reduceCtorEq, zQ, yz, yY, yy, yx, yw, yv, yu, yq, yX, yj, yk, yg, yW, yV, yU, yZ, yQ, xz, TPl, Cap.cl, wH_len, J, J0, J2, hb5, hb6, hBl, hAl, hsj, hjj, hf1, hf2, Int.toNat_natCast, put, fillP, EVt]
                exact IH2 (j' + 1, false) _ (by simp only; omega) ⟨by simp only; omega, fun _ => ⟨hz, fun j hj => hnx j hj (by rw [hmt]; rfl)⟩⟩ (Wk.keep 1 (by rfl) rfl (by simp (config := {maxSteps := 9999999}) only [EV0, zy, zx, zw, zv, zu, zq, zp, zj, zk, leT, zg, rvC, zZ, zY, zX, zW, ↓zV, ↓zU, reduceCtorEq, zQ, yz, yY, yy, yx, yw, yv, yu, yq, yX, yj, yk, yg, yW, yV, yU, yZ, yQ, xz, wH_len, List.length_cons, List.length_nil]) (by simp (config := {maxSteps := 9999999}) only [EV0, zy, zx, zw, zv, zu, zq, zp, zj, zk, leT, zg, rvC, zZ, zY, zX, zW, ↓zV, ↓zU, reduceCtorEq, zQ, yz, yY, yy, yx, yw, yv, yu, yq, yX, yj, yk, yg, yW, yV, yU, yZ, yQ, xz, hbl]) (by simp [Cap.cl, S.below]))
              cases f3
              case false =>
                simp (config := {maxSteps := 9999999}) only [EV0, zy, zx, zw, zv, zu, zq, zp, zj, zk, leT, zg, rvC, zZ, zY, zX, zW, ↓zV, ↓zU, reduceCtorEq, zQ, yz, yY, yy, yx, yw, yv, yu, yq, yX, yj, yk, yg, yW, yV, yU, yZ, yQ, xz, TPl, Cap.cl, wH_len, J, J0, J2, hb5, hb6, hBl, hAl, hsj, hjj, hf1, hf2, hf3, Int.toNat_natCast, put, fillP, EVt]
                exact IH2 (j' + 1, false) _ (by simp only; omega) ⟨by simp only; omega, fun _ => ⟨hz, fun j hj => hnx j hj (by rw [hmt]; rfl)⟩⟩ (Wk.keep 1 (by rfl) rfl (by simp (config := {maxSteps := 9999999}) only [EV0, zy, zx, zw, zv, zu, zq, zp, zj, zk, leT, zg, rvC, zZ, zY, zX, zW, ↓zV, ↓zU, reduceCtorEq, zQ, yz, yY, yy, yx, yw, yv, yu, yq, yX, yj, yk, yg, yW, yV, yU, yZ, yQ, xz, wH_len, List.length_cons, List.length_nil]) (by simp (config := {maxSteps := 9999999}) only [EV0, zy, zx, zw, zv, zu, zq, zp, zj, zk, leT, zg, rvC, zZ, zY, zX, zW, ↓zV, ↓zU, reduceCtorEq, zQ, yz, yY, yy, yx, yw, yv, yu, yq, yX, yj, yk, yg, yW, yV, yU, yZ, yQ, xz, hbl]) (by simp [Cap.cl, S.below]))
              cases f4
              case true =>
                simp (config := {maxSteps := 9999999}) only [EV0, zy, zx, zw, zv, zu, zq, zp, zj, zk, leT, zg, rvC, zZ, zY, zX, zW, ↓zV, ↓zU, reduceCtorEq, zQ, yz, yY, yy, yx, yw, yv, yu, yq, yX, yj, yk, yg, yW, yV, yU, yZ, yQ, xz, TPl, Cap.cl, wH_len, J, J0, J2, hb5, hb6, hBl, hAl, hsj, hjj, hf1, hf2, hf3, hf4, Int.toNat_natCast, put, fillP, EVt]
                exact IH2 (j' + 1, true) _ (by simp only; omega) ⟨by simp only; omega, fun h => by cases h⟩ (Wk.keep 1 (by rfl) rfl (by simp (config := {maxSteps := 9999999}) only [EV0, zy, zx, zw, zv, zu, zq, zp, zj, zk, leT, zg, rvC, zZ, zY, zX, zW, ↓zV, ↓zU, reduceCtorEq, zQ, yz, yY, yy, yx, yw, yv, yu, yq, yX, yj, yk, yg, yW, yV, yU, yZ, yQ, xz, wH_len, List.length_cons, List.length_nil]) (by simp (config := {maxSteps := 9999999}) only [EV0, zy, zx, zw, zv, zu, zq, zp, zj, zk, leT, zg, rvC, zZ, zY, zX, zW, ↓zV, ↓zU, reduceCtorEq, zQ, yz, yY, yy, yx, yw, yv, yu, yq, yX, yj, yk, yg, yW, yV, yU, yZ, yQ, xz, hbl]) (by simp [Cap.cl, S.below]))
              cases f5
              case true =>
                simp (config := {maxSteps := 9999999}) only [EV0, zy, zx, zw, zv, zu, zq, zp, zj, zk, leT, zg, rvC, zZ, zY, zX, zW, ↓zV, ↓zU, reduceCtorEq, zQ, yz, yY, yy, yx, yw, yv, yu, yq, yX, yj, yk, yg, yW, yV, yU, yZ, yQ, xz, TPl, Cap.cl, wH_len, J, J0, J2, hb5, hb6, hBl, hAl, hsj, hjj, hf1, hf2, hf3, hf4, hf5, Int.toNat_natCast, put, fillP, EVt]
                exact IH2 (j' + 1, true) _ (by simp only; omega) ⟨by simp only; omega, fun h => by cases h⟩ (Wk.keep 1 (by rfl) rfl (by simp (config := {maxSteps := 9999999}) only [EV0, zy, zx, zw, zv, zu, zq, zp, zj, zk, leT, zg, rvC, zZ, zY, zX, zW, ↓zV, ↓zU, reduceCtorEq, zQ, yz, yY, yy, yx, yw, yv, yu, yq, yX, yj, yk, yg, yW, yV, yU, yZ, yQ, xz, wH_len, List.length_cons, List.length_nil]) (by simp (config := {maxSteps := 9999999}) only [EV0, zy, zx, zw, zv, zu, zq, zp, zj, zk, leT, zg, rvC, zZ, zY, zX, zW, ↓zV, ↓zU, reduceCtorEq, zQ, yz, yY, yy, yx, yw, yv, yu, yq, yX, yj, yk, yg, yW, yV, yU, yZ, yQ, xz, hbl]) (by simp [Cap.cl, S.below]))
              simp (config := {maxSteps := 9999999}) only [EV0, zy, zx, zw, zv, zu, zq, zp, zj, zk, leT, zg, rvC, zZ, zY, zX, zW, ↓zV, ↓zU, reduceCtorEq, zQ, yz, yY, yy, yx, yw, yv, yu, yq, yX, yj, yk, yg, yW, yV, yU, yZ, yQ, xz, TPl, Cap.cl, wH_len, J, J0, J2, hb5, hb6, hBl, hAl, hsj, hjj, hf1, hf2, hf3, hf4, hf5, Int.toNat_natCast, put, fillP, EVt]
              exact IH2 (j' + 1, false) _ (by simp only; omega) ⟨by simp only; omega, fun _ => ⟨hz, fun j hj => hnx j hj (by rw [hmt]; rfl)⟩⟩ (Wk.keep 1 (by rfl) rfl (by simp (config := {maxSteps := 9999999}) only [EV0, zy, zx, zw, zv, zu, zq, zp, zj, zk, leT, zg, rvC, zZ, zY, zX, zW, ↓zV, ↓zU, reduceCtorEq, zQ, yz, yY, yy, yx, yw, yv, yu, yq, yX, yj, yk, yg, yW, yV, yU, yZ, yQ, xz, wH_len, List.length_cons, List.length_nil]) (by simp (config := {maxSteps := 9999999}) only [EV0, zy, zx, zw, zv, zu, zq, zp, zj, zk, leT, zg, rvC, zZ, zY, zX, zW, ↓zV, ↓zU, reduceCtorEq, zQ, yz, yY, yy, yx, yw, yv, yu, yq, yX, yj, yk, yg, yW, yV, yU, yZ, yQ, xz, hbl]) (by simp [Cap.cl, S.below]))
        · have : k = 44 := by omega
          subst this
          clear IHk
          refine run_sound (Tab.ok_Γ _) 300 _ _ _ _ ?_
          simp (config := {maxSteps := 9999999}) only [EV0, zy, zx, zw, zv, zu, zq, zp, zj, zk, leT, zg, rvC, zZ, zY, zX, zW, ↓zV, ↓zU, reduceCtorEq, zQ, yz, yY, yy, yx, yw, yv, yu, yq, yX, yj, yk, yg, yW, yV, yU, yZ, yQ, xz, TPl, wH_len, Int.lt_irrefl, hm3, d4]
          have ht5 : (wH h m4 r3 [⟨.rw, A, ca * 11⟩, ⟨.rw, B, cb * 11⟩]).take (h.length + 5) = wH h m4 r3 [] := by
            have e : wH h m4 r3 [⟨.rw, A, ca * 11⟩, ⟨.rw, B, cb * 11⟩] = wH h m4 r3 [] ++ [⟨.rw, A, ca * 11⟩, ⟨.rw, B, cb * 11⟩] := by simp [wH]
            have l5 : (wH h m4 r3 []).length = h.length + 5 := by rw [wH_len]; rfl
            rw [e, ← l5, List.take_left]
          obtain ⟨Q3, D3⟩ := hD.L
          refine IH (i + 1, m4, r3) _ (by simp only; omega) ⟨by simp only; omega, by simp only; rw [hD.w, w4], Q3, D3.of_w w4⟩ (Wk.keepH (h.length + 5) ht5 ?_ ?_ ?_ ?_ ?_)
          · rw [wH_len]; omega
          · simp (config := {maxSteps := 9999999}) only [EV0, zy, zx, zw, zv, zu, zq, zp, zj, zk, leT, zg, rvC, zZ, zY, zX, zW, ↓zV, ↓zU, reduceCtorEq, zQ, yz, yY, yy, yx, yw, yv, yu, yq, yX, yj, yk, yg, yW, yV, yU, yZ, yQ, xz]
          · simp (config := {maxSteps := 9999999}) only [EV0, zy, zx, zw, zv, zu, zq, zp, zj, zk, leT, zg, rvC, zZ, zY, zX, zW, ↓zV, ↓zU, reduceCtorEq, zQ, yz, yY, yy, yx, yw, yv, yu, yq, yX, yj, yk, yg, yW, yV, yU, yZ, yQ, xz, wH_len]
            have := (List.getElem?_eq_some_iff.1 hj).1
            omega
          · exact wH_clean3 hc m4 r3
          · simp
    · have hex := exit2 h2
      clear IH h2
      simp only [show ((100 : Nat) : Int) = 100 from rfl] at hex
      rcases hex with ⟨f1, f2⟩ | ⟨f1, f2⟩
      all_goals
        refine run_sound (Tab.ok_Γ _) 300 _ _ _ _ ?_
        simp (config := {maxSteps := 9999999}) only [EV0, zy, zx, zw, zv, zu, zq, zp, zj, zk, leT, zg, rvC, zZ, zY, zX, zW, ↓zV, ↓zU, reduceCtorEq, zQ, yz, yY, yy, yx, yw, yv, yu, yq, yX, yj, yk, yg, yW, yV, yU, yZ, yQ, xz, TPl, ↓hlen, ↓hkn, ↓hnl, f1, f2]
        exact hK _
end Go.Proofs.YtpmobbehdpgnbaaGreat

/- DeriveLess: for every input the law's Go function answers true, and its arguments read behind the call as before. No conditions. -/
namespace Go.Proofs.YtpmobbehdpgnbaaGreat
open Go.D
set_option linter.all false
set_option maxRecDepth 100000

theorem deriveLess_row : RowOk Tryz.prog 4 Tryz.f4 Rows.deriveLessSpec [(false, [.slice ActT])] where
  own := own
  noTabs := rfl
  noInit := by kernel_rfl
  isf := Tryz.func4
  laid := laid
  rowed := rowed
  full := full
  params := by kernel_rfl
  vars := rfl
  ret := ⟨_, rfl, by kernel_rfl⟩
  spec := fun H ds e => by
    match ds, e with
    | [_], _ => rfl
  tys := ⟨20, by kernel_rfl⟩
theorem deriveLess_holds : Rows.DeriveLessSaid :=
  OpenClaim.holds_of_wide 4 Tryz.f4 rfl rfl rfl rfl rfl rfl rfl ⟨rfl, rfl, rfl, rfl, rfl⟩ rfl rfl rfl rfl rfl (by kernel_rfl) Tryz.func4 (by kernel_rfl)
    (of_decide_eq_true (by kernel_rfl)) (by unfold Func.isWrapper; first | (rw [if_pos (by decide +kernel)]; kernel_rfl) | (rw [if_neg (by decide +kernel)]; exact ⟨rfl, rfl⟩))
    (fun os started H enc _ => deriveLess_row.lifted (C := Tryz.checked) deriveLess_snd derivePlays_law started (ChangeSpec.witness6 (enc := enc) (C := Tryz.checked) false ⟨#[], #[.slice none 0 0], []⟩ 8 (by kernel_rfl) (by kernel_rfl) (by kernel_rfl) (by kernel_rfl)))
end Go.Proofs.YtpmobbehdpgnbaaGreat

