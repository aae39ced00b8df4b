/- DeriveOrder: for every input the law's Go function answers true, and its arguments read behind the call as before. No conditions. -/
import Derived.Test.YtpmobbehdpgnbaaGreatRows
import Derived.Test.YtpmobbehdpgnbaaGreatZ30
import Derived.Test.YtpmobbehdpgnbaaGreatZ31
import Derived.Test.YtpmobbehdpgnbaaGreatZ10
/- DerivePlays: for every input the law's Go function answers true, and its arguments read behind the call as before. No conditions. -/
namespace Go.Proofs.YtpmobbehdpgnbaaGreat
open Go.D
set_option linter.all false
set_option maxRecDepth 100000

theorem lawC {h : List Blk} {x : Bool × List TY} {xs : List (Bool × List TY)} {us : List V} (H : hasVs h (x :: xs) us) : ∃ u vs, us = u :: vs ∧ hasV h x u ∧ hasVs h xs vs := by
  match us, H with
  | u :: vs, H => exact ⟨u, vs, rfl, H.1, H.2⟩
  | [], H => exact H.elim
theorem lawN {h : List Blk} {us : List V} (H : hasVs h [] us) : us = [] := by
  match us, H with
  | [], _ => rfl
  | _ :: _, H => exact H.elim
theorem i64_b {n : Int} (h : (Lit.int .i64 n).wf = true) : i64b n := by
  have e : (decide ((-9223372036854775808 : Int) ≤ n) && decide (n ≤ 9223372036854775807)) = true := h
  simp only [Bool.and_eq_true, decide_eq_true_eq] at e
  unfold i64b; omega
def ActT : List TY := [.int .i64, .int .i64, .int .i64, .int .i64, .int .i64, .int .i64, .int .i64, .int .i64]
theorem hasTs_act {h : List Blk} {ss : List S} (H0 : hasTs h ActT ss) : ∃ o : Act, ss = o.cl ∧ o.u := by
  unfold ActT at H0
  obtain ⟨_, _, rfl, ⟨x0, rfl, h0⟩, H1⟩ := hasTs_cons H0
  obtain ⟨_, _, rfl, ⟨x1, rfl, h1⟩, H2⟩ := hasTs_cons H1
  obtain ⟨_, _, rfl, ⟨x2, rfl, h2⟩, H3⟩ := hasTs_cons H2
  obtain ⟨_, _, rfl, ⟨x3, rfl, h3⟩, H4⟩ := hasTs_cons H3
  obtain ⟨_, _, rfl, ⟨x4, rfl, h4⟩, H5⟩ := hasTs_cons H4
  obtain ⟨_, _, rfl, ⟨x5, rfl, h5⟩, H6⟩ := hasTs_cons H5
  obtain ⟨_, _, rfl, ⟨x6, rfl, h6⟩, H7⟩ := hasTs_cons H6
  obtain ⟨_, _, rfl, ⟨x7, rfl, h7⟩, H8⟩ := hasTs_cons H7
  obtain rfl := hasTs_nil H8
  exact ⟨⟨x0, x1, x2, x3, x4, x5, x6, x7⟩, rfl, i64_b h1, i64_b h2, i64_b h3⟩
theorem derivePlays_law : Law derivePlaysS [(false, [.slice ActT])] := by
  intro h us H hc
  obtain ⟨_, _, rfl, H1, H⟩ := lawC H
  obtain rfl := lawN H
  obtain ⟨s, L, rfl, e1, e2, e3⟩ := hasV_slice (c := Act.cl) (p := Act.u) (fun ss h => hasTs_act h) H1
  exact ⟨s, L, rfl, e1, e2, by omega, fun _ => rfl⟩
end Go.Proofs.YtpmobbehdpgnbaaGreat

/- Law 12: DeriveOrder: the walk. -/
namespace Go.Proofs.YtpmobbehdpgnbaaGreat
open Go.D
open Nat (reduceAdd reducePow reduceMul reduceSub reduceLeDiff reduceLT reduceEqDiff)
open Int (reduceNeg reduceLE reduceEq reduceNe reduceToNat)
open Go.D renaming istep → zy, pickR → zx, bin1R → zw, un1R → zv, eqS → zu, eq1 → zq, cmpS → zp, cmp1 → zj, isNil → zk, shows → zg, result → zZ, q_cond_t → zV, q_cond_f → zU
open List renaming set → zY, replicate → zX
open Option renaming map → zW
open Nat renaming reduceAdd → zQ, reducePow → yz, reduceMul → yy, reduceSub → yx, reduceLeDiff → yw, reduceLT → yv, reduceEqDiff → yu
open Int renaming reduceNeg → yq, reduceLE → yj, reduceEq → yk, reduceNe → yg, reduceToNat → yZ, reducePow → yY, reduceLT → yX, reduceAdd → yW, reduceSub → yV, reduceMul → yU, reduceBEq → yQ, reduceBNe → xz
set_option linter.all false
set_option maxRecDepth 100000
set_option maxHeartbeats 8000000

def fitsB (m : M) : Prop := ∀ k, k ∈ PL → fitB (m.gV k).cap k = true
theorem fits_base : fitsB baseC := fun k hk => by rw [gV_w baseC_w]; exact base_fit k hk
theorem Did.fits {m m1 r1 : M} {C : Int → Cap} (h : Did m m1 r1 C) (hF : Fine m C) (f : fitsB m) : fitsB m1 := fun k hk => by
  obtain ⟨L, D⟩ := h.L
  rw [h.cap k (D.n0 (PL_PB hk))]
  exact hF.fit f k hk
theorem exit2 {i n lim : Nat} (h : ¬ (i < n ∧ i < lim)) : ((((i : Int) < (n : Int)) = True ∧ ((i : Int) < (lim : Int)) = False) ∨ (((i : Int) < (n : Int)) = False ∧ ((i : Int) < (n : Int)) = False)) := by
  by_cases h1 : i < n
  · left
    exact ⟨eq_true (by omega), eq_false (by omega)⟩
  · right
    exact ⟨eq_false (by omega), eq_false (by omega)⟩
theorem derivePlaysS_order : Snd Tryz.prog 5 derivePlaysS := (fwp_sound (Tab.snd_Γ (addT_snd ok19 get2_snd (addT_snd ok18 plc_snd TPl_snd))) mixed Tryz.func5 dc5).weaken fun args h K hc hS => by
  obtain ⟨s, L, rfl, Hs, hu, l1, hK⟩ := hS
  refine fwp_run (Tab.ok_Γ _) 400 ?_
  have hlen := fun ls h' => Hs.sl.len (ls := ls) (h := h')
  have hkn := Hs.sl.known
  have hnl := Hs.sl.noL
  have hbl := Hs.sl.below
  simp (config := {maxSteps := 9999999}) only [EV0, zy, zx, zw, zv, zu, zq, zp, zj, zk, leT, zg, rvC, zZ, zY, zX, zW, ↓zV, ↓zU, reduceCtorEq, zQ, yz, yY, yy, yx, yw, yv, yu, yq, yX, yj, yk, yg, yW, yV, yU, yZ, yQ, xz, df5, TPl, awake12G, basedG, ↓hlen, ↓hkn, ↓hnl]
  refine loop_rule (α := Nat × M × M) [5, 14, 15, 16, 17, 18, 19, 20, 21, 22, 23, 24, 25, 26, 27, 28, 29] (fun x => [(5, .s (.i .i64 (x.1 : Int)))]) (fun _ => []) (fun x => wH h x.2.1 x.2.2 []) (fun x => x.1 ≤ L.length ∧ x.2.2.w = x.2.1.w ∧ (∃ Q, DI x.2.1 Q) ∧ fitsB x.2.1) (fun x => L.length - x.1) (0, baseC, baseM) ⟨Nat.zero_le _, baseC_w.symm, DI_base, fits_base⟩ ?_ ?_
  · refine Wk.same rfl rfl ?_
    simp (config := {maxSteps := 9999999}) only [EV0, zy, zx, zw, zv, zu, zq, zp, zj, zk, leT, zg, rvC, zZ, zY, zX, zW, ↓zV, ↓zU, reduceCtorEq, zQ, yz, yY, yy, yx, yw, yv, yu, yq, yX, yj, yk, yg, yW, yV, yU, yZ, yQ, xz, Int.natCast_zero]
  · rintro X ⟨i, m, r⟩ ⟨hi, hw, ⟨Q, D⟩, hfit⟩ IH
    simp only at hi hw D hfit ⊢
    by_cases h2 : i < L.length ∧ i < 100
    · obtain ⟨h1, h100⟩ := h2
      obtain ⟨d1, d2, d3, d4⟩ := idx h1 l1
      have c100 : (i : Int) < 100 := by omega
      obtain ⟨j, cc, st, room, hse, hj, hd⟩ := Hs.at h1
      obtain ⟨x, hx⟩ : ∃ x, nth actZ L i = x := ⟨_, rfl⟩
      have hxu : x.u := by rw [← hx]; exact hu _ (nth_mem h1)
      have hs : sub (arr Act.cl L) (i * 8) 8 = x.cl := by rw [← hx, nth_eq h1]; exact arr_sub Act.cl_len h1
      have hle : i * 8 + 8 ≤ (arr Act.cl L).length := by rw [arr_length Act.cl_len]; omega
      simp only [Act.cl] at hs
      obtain ⟨e1, Cf, hD, hF⟩ := D.act hw hxu
      have hob : ∀ m r, (wH h m r [])[j]? = _ := fun m r => wH_old hj m r []
      subst hse
      refine run_sound (Tab.ok_Γ _) 300 _ _ _ _ ?_
      simp (config := {maxSteps := 9999999}) only [EV0, zy, zx, zw, zv, zu, zq, zp, zj, zk, leT, zg, rvC, zZ, zY, zX, zW, ↓zV, ↓zU, reduceCtorEq, zQ, yz, yY, yy, yx, yw, yv, yu, yq, yX, yj, yk, yg, yW, yV, yU, yZ, yQ, xz, TPl, doesG, doesM, actF, act_eta, wldF_eq, ↓hlen, ↓hkn, ↓hnl, d1, d2, d3, d4, c100, hob, hd, hs, hle, Int.toNat_natCast]
      exact IH (i + 1, (m.act x).2, (r.ract x).2) _ (by simp only; omega) ⟨by simp only; omega, hD.w, hD.L, hD.fits hF hfit⟩ (Wk.same rfl rfl (by simp (config := {maxSteps := 9999999}) only [EV0, zy, zx, zw, zv, zu, zq, zp, zj, zk, leT, zg, rvC, zZ, zY, zX, zW, ↓zV, ↓zU, reduceCtorEq, zQ, yz, yY, yy, yx, yw, yv, yu, yq, yX, yj, yk, yg, yW, yV, yU, yZ, yQ, xz]))
    · have hex := exit2 h2
      clear IH h2
      simp only [show ((100 : Nat) : Int) = 100 from rfl] at hex
      rcases hex with ⟨f1, f2⟩ | ⟨f1, f2⟩
      all_goals
        refine run_sound (Tab.ok_Γ _) 300 _ _ _ _ ?_
        simp (config := {maxSteps := 9999999}) only [EV0, zy, zx, zw, zv, zu, zq, zp, zj, zk, leT, zg, rvC, zZ, zY, zX, zW, ↓zV, ↓zU, reduceCtorEq, zQ, yz, yY, yy, yx, yw, yv, yu, yq, yX, yj, yk, yg, yW, yV, yU, yZ, yQ, xz, TPl, ↓hlen, ↓hkn, ↓hnl, f1, f2]
        refine loop_rule (α := Nat × M) [2, 6, 7, 8, 9, 30, 31, 32, 33, 34, 35, 36, 37, 38, 39, 40, 41, 42, 43, 44, 45, 46, 47, 48, 49, 50, 51, 52, 53, 54, 55, 56, 57, 58, 59, 60, 61, 62, 63, 64, 65] (fun x => [(6, .s (.i .i64 (x.1 : Int)))]) (fun _ => []) (fun x => wH h x.2 r []) (fun x => x.1 ≤ 44 ∧ x.2.w = m.w) (fun x => 44 - x.1) (0, m) ⟨Nat.zero_le _, rfl⟩ (Wk.same rfl rfl ?_) ?_
        · simp (config := {maxSteps := 9999999}) only [EV0, zy, zx, zw, zv, zu, zq, zp, zj, zk, leT, zg, rvC, zZ, zY, zX, zW, ↓zV, ↓zU, reduceCtorEq, zQ, yz, yY, yy, yx, yw, yv, yu, yq, yX, yj, yk, yg, yW, yV, yU, yZ, yQ, xz, Int.natCast_zero]
        · rintro Y ⟨j, m'⟩ ⟨hj, hw'⟩ IH
          simp only at hj hw' ⊢
          have hB : ∀ m' : M, (wH h m' r [])[h.length + 4]? = some ⟨.rw, [.p (.g (h.length + 2)) 0, .p (.g h.length) 0], 2⟩ := fun m' => wH_at h m' r []
          rcases Nat.lt_or_ge j 44 with hlt | hge
          · have I : (j : Int) < 44 := by omega
            have I2 : IntKind.i64.wrap ((j : Int) + 1) = ((j + 1 : Nat) : Int) := by rw [wrap64] <;> omega
            have hP : plcV (j : Int) ∈ PL := plc_PL ⟨by omega, by omega⟩
            have hE : m'.gE (plcV j) = 0 := by rw [gE_w hw']; exact D.gE (PL_PB hP)
            have hf := hfit _ hP
            obtain ⟨⟨⟨c0, o0, e0, f0, g0, i0, j0, k0, l0, m0, n0⟩, p0, q0, r0⟩, hs⟩ : ∃ s, m.gV (plcV j) = s := ⟨_, rfl⟩
            have hgV : m'.gV (plcV j) = _ := (gV_w hw' _).trans hs
            rw [hs] at hf
            obtain ⟨at_, hat⟩ : ∃ a, plcV (j : Int) = a := ⟨_, rfl⟩
            rw [hat] at hE hf hgV
            cases k2 : c0 == 2
            all_goals cases k3 : c0 == 3
            all_goals simp only [fitB, k2, k3, if_true, if_false, Bool.false_eq_true, decide_eq_true_eq] at hf
            all_goals have ho : c0 == 2 ∨ c0 == 3 → ¬ o0 ≤ at_ := fun h => by first | omega | (rw [k2, k3] at h; simp at h)
            all_goals simp only [k2, k3, Bool.false_eq_true, or_self, or_true, true_or, forall_const, false_implies] at ho
            all_goals refine run_sound (Tab.ok_Γ _) 200 _ _ _ _ ?_
            all_goals (simp (config := {maxSteps := 9999999}) only [EV0, zy, zx, zw, zv, zu, zq, zp, zj, zk, leT, zg, rvC, zZ, zY, zX, zW, ↓zV, ↓zU, reduceCtorEq, zQ, yz, yY, yy, yx, yw, yv, yu, yq, yX, yj, yk, yg, yW, yV, yU, yZ, yQ, xz, TPl, plcG, get2G, get2M, I, I2, hB, wH_m, hat, hE, hgV, k2, k3, ho, Slot.cl, Cap.cl, put, fillP, sub, EVt])
            all_goals exact IH (j + 1, m'.gX at_) _ (by simp only; omega) ⟨by simp only; omega, (gX_w _ _).trans hw'⟩ (Wk.keep 0 rfl rfl (by simp (config := {maxSteps := 9999999}) only [EV0, zy, zx, zw, zv, zu, zq, zp, zj, zk, leT, zg, rvC, zZ, zY, zX, zW, ↓zV, ↓zU, reduceCtorEq, zQ, yz, yY, yy, yx, yw, yv, yu, yq, yX, yj, yk, yg, yW, yV, yU, yZ, yQ, xz]) (by simp (config := {maxSteps := 9999999}) only [EV0, zy, zx, zw, zv, zu, zq, zp, zj, zk, leT, zg, rvC, zZ, zY, zX, zW, ↓zV, ↓zU, reduceCtorEq, zQ, yz, yY, yy, yx, yw, yv, yu, yq, yX, yj, yk, yg, yW, yV, yU, yZ, yQ, xz, hbl]) (by simp))
          · have : j = 44 := by omega
            subst this
            have I : ¬ (((44 : Nat) : Int) < 44) := by omega
            clear IH
            refine run_sound (Tab.ok_Γ _) 200 _ _ _ _ ?_
            simp (config := {maxSteps := 9999999}) only [EV0, zy, zx, zw, zv, zu, zq, zp, zj, zk, leT, zg, rvC, zZ, zY, zX, zW, ↓zV, ↓zU, reduceCtorEq, zQ, yz, yY, yy, yx, yw, yv, yu, yq, yX, yj, yk, yg, yW, yV, yU, yZ, yQ, xz, TPl, I]
            exact hK _
end Go.Proofs.YtpmobbehdpgnbaaGreat

/- DeriveOrder: for every input the law's Go function answers true, and its arguments read behind the call as before. No conditions. -/
namespace Go.Proofs.YtpmobbehdpgnbaaGreat
open Go.D
set_option linter.all false
set_option maxRecDepth 100000

theorem deriveOrder_row : RowOk Tryz.prog 5 Tryz.f5 Rows.deriveOrderSpec [(false, [.slice ActT])] where
  own := own
  noTabs := rfl
  noInit := by kernel_rfl
  isf := Tryz.func5
  laid := laid
  rowed := rowed
  full := full
  params := by kernel_rfl
  vars := rfl
  ret := ⟨_, rfl, by kernel_rfl⟩
  spec := fun H ds e => by
    match ds, e with
    | [_], _ => rfl
  tys := ⟨20, by kernel_rfl⟩
theorem deriveOrder_holds : Rows.DeriveOrderSaid :=
  OpenClaim.holds_of_wide 5 Tryz.f5 rfl rfl rfl rfl rfl rfl rfl ⟨rfl, rfl, rfl, rfl, rfl⟩ rfl rfl rfl rfl rfl (by kernel_rfl) Tryz.func5 (by kernel_rfl)
    (of_decide_eq_true (by kernel_rfl)) (by unfold Func.isWrapper; first | (rw [if_pos (by decide +kernel)]; kernel_rfl) | (rw [if_neg (by decide +kernel)]; exact ⟨rfl, rfl⟩))
    (fun os started H enc _ => deriveOrder_row.lifted (C := Tryz.checked) derivePlaysS_order derivePlays_law started (ChangeSpec.witness6 (enc := enc) (C := Tryz.checked) false ⟨#[], #[.slice none 0 0], []⟩ 8 (by kernel_rfl) (by kernel_rfl) (by kernel_rfl) (by kernel_rfl)))
end Go.Proofs.YtpmobbehdpgnbaaGreat

