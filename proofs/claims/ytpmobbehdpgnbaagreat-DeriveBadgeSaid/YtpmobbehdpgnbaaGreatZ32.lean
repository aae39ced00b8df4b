/- DeriveBadge: for every input the law's Go function answers true, and its arguments read behind the call as before. No conditions. -/
import Derived.Test.YtpmobbehdpgnbaaGreatZ10
import Derived.Test.YtpmobbehdpgnbaaGreatZ30
import Derived.Test.YtpmobbehdpgnbaaGreatZ28
import Derived.Test.YtpmobbehdpgnbaaGreatZ31
/- Law 12: DeriveOrder: the walk. -/
namespace Go.Proofs.YtpmobbehdpgnbaaGreat
open Go.D
set_option linter.all false
set_option maxRecDepth 100000
set_option maxHeartbeats 8000000

theorem exit2 {i n lim : Nat} (h : ¬ (i < n ∧ i < lim)) : ((((i : Int) < (n : Int)) = True ∧ ((i : Int) < (lim : Int)) = False) ∨ (((i : Int) < (n : Int)) = False ∧ ((i : Int) < (n : Int)) = False)) := by
  by_cases h1 : i < n
  · left
    exact ⟨eq_true (by omega), eq_false (by omega)⟩
  · right
    exact ⟨eq_false (by omega), eq_false (by omega)⟩
end Go.Proofs.YtpmobbehdpgnbaaGreat

/- Law 12: what a Mint of an endpoint's, a notification's cap says and makes. -/
namespace Go.Proofs.YtpmobbehdpgnbaaGreat
open Go.D
set_option linter.all false
set_option maxRecDepth 100000
set_option maxHeartbeats 4000000

section
variable {m : M} {L : List Int}
theorem DI.right (D : DI m L) (x : Int) : rightB (m.gV x).cap = true := (slotRB_iff (m.gV_u x)).1
theorem mint_c (D : DI m L) {a b n : Int} (ha : a ∈ PL) (hb : b ∈ PL) (ht : (m.gV a).cap.ty = 4 ∨ (m.gV a).cap.ty = 5) (he : (m.gV b).cap.ty = 0) :
    m.coE a b = 0 ∧ m.coC a b 7 = (m.gV a).cap := by
  obtain ⟨c, hc⟩ : ∃ c, (m.gV a).cap = c := ⟨_, rfl⟩
  have hr := D.right a
  rw [hc] at hr ht
  have rb := right_bounds hr
  have e1 : m.emB a = false := by
    unfold M.emB
    rw [hc]
    rcases ht with h | h <;> rw [h] <;> rfl
  have e2 : m.emB b = true := by unfold M.emB; rw [he]; rfl
  have en : m.enE a b = 0 := by unfold M.enE; rw [e1, e2]; rfl
  have de : derE c = 0 := by
    unfold derE
    rcases ht with h | h <;> rw [h] <;> rfl
  have dc : derC c = c := by
    unfold derC
    rw [if_pos de]
    rcases ht with h | h <;> rw [h] <;> rfl
  have ft : fitB c b = true := by
    unfold fitB
    rcases ht with h | h <;> rw [h] <;> rfl
  have co : m.coE a b = 0 := by
    unfold M.coE
    rw [if_pos en, hc, if_pos de, dc, if_pos ft]
  refine ⟨co, ?_⟩
  unfold M.coC
  rw [if_pos co, hc, dc]
  unfold Cap.mask
  have hty : c.ty = 4 ∨ c.ty = 5 ∨ c.ty = 8 := by
    rcases ht with h | h
    · exact .inl h
    · exact .inr (.inl h)
  rw [if_pos hty, and7i rb.rights.1 (by have := rb.rights.2; omega), Int.emod_eq_of_lt rb.rights.1 (by have := rb.rights.2; omega)]
theorem ep_right {c : Cap} (hr : rightB c = true) (ht : c.ty = 4 ∨ c.ty = 5) {n : Int} (hn : bdgB n = true) : rightB (c.withB n) = true := by
  have h0 : 0 ≤ n ∧ n < 268435456 := by simpa [bdgB] using hn
  obtain ⟨ty, obj, bits, mark, gu, gb, bd, ri, asd, va, li⟩ := c
  simp only at ht
  rcases ht with rfl | rfl
  · show rightB ⟨4, obj, bits, mark, gu, gb, n, ri, asd, va, li⟩ = true
    simp only [rightB, Int.reduceEq, if_false, if_true] at hr ⊢
    split at hr
    · rename_i h1
      rw [if_pos h1]
      split at hr
      · cases hr
      · rename_i h2
        rw [if_neg h2]
        simp only [Bool.and_eq_true] at hr ⊢
        refine ⟨hr.1, ?_⟩
        simp only [inV, Bool.and_eq_true, decide_eq_true_eq]
        omega
    · cases hr
  · show rightB ⟨5, obj, bits, mark, gu, gb, n, ri, asd, va, li⟩ = true
    simp only [rightB, Int.reduceEq, if_false, if_true] at hr ⊢
    split at hr
    · rename_i h1
      rw [if_pos h1]
      split at hr
      · cases hr
      · rename_i h2
        rw [if_neg h2]
        simp only [Bool.and_eq_true] at hr ⊢
        refine ⟨hr.1, ?_⟩
        simp only [inV, Bool.and_eq_true, decide_eq_true_eq]
        omega
    · cases hr
theorem DI.mint (D : DI m L) {a b n : Int} (ha : a ∈ PL) (hb : b ∈ PL) (ht : (m.gV a).cap.ty = 4 ∨ (m.gV a).cap.ty = 5) (he : (m.gV b).cap.ty = 0) :
    m.gV b = slotZ ∧ ((m.gV a).cap.badge ≠ 0 → m.miE a b 7 n 0 0 = 122 ∧ (m.miX M.enX M.layX a b 7 n 0 0).w = m.w) ∧
    ((m.gV a).cap.badge = 0 → bdgB n = false → m.miE a b 7 n 0 0 = 1 ∧ (m.miX M.enX M.layX a b 7 n 0 0).w = m.w) ∧
    ((m.gV a).cap.badge = 0 → bdgB n = true → m.miE a b 7 n 0 0 = 0 ∧ (m.miX M.enX M.layX a b 7 n 0 0).gE b = 0 ∧ ((m.miX M.enX M.layX a b 7 n 0 0).gV b).cap = (m.gV a).cap.withB n) := by
  obtain ⟨co, cc⟩ := mint_c D ha hb ht he (n := n)
  have hep : epB (m.gV a).cap = true := by
    unfold epB
    rcases ht with h | h <;> rw [h] <;> rfl
  have hbL : b ∉ L := (D.em (PL_PB hb)).1 (by unfold M.emB; rw [he]; rfl)
  have haL : a ∈ L := (D.emf (PL_PB ha)).1 (by
    unfold M.emB
    rcases ht with h | h <;> rw [h] <;> rfl)
  have mi : m.miE a b 7 n 0 0 = (m.gV a).cap.miE n 0 0 := by unfold M.miE; rw [if_pos co, cc]
  have wx : m.miE a b 7 n 0 0 ≠ 0 → (m.miX M.enX M.layX a b 7 n 0 0).w = m.w := fun h => by
    unfold M.miX; rw [if_neg h]; exact coXe_w _ _ _
  refine ⟨D.z b (PL_PB hb) hbL, fun h => ?_, fun h hn => ?_, fun h hn => ?_⟩
  · have e : m.miE a b 7 n 0 0 = 122 := by
      rw [mi]; unfold Cap.miE
      rw [if_pos hep, if_neg (by simpa using h)]
    exact ⟨e, wx (by rw [e]; decide)⟩
  · have e : m.miE a b 7 n 0 0 = 1 := by
      rw [mi]; unfold Cap.miE
      rw [if_pos hep, if_pos (by simpa using h), hn]; rfl
    exact ⟨e, wx (by rw [e]; decide)⟩
  · have e : m.miE a b 7 n 0 0 = 0 := by
      rw [mi]; unfold Cap.miE
      rw [if_pos hep, if_pos (by simpa using h), if_pos hn]
    have mc : (m.gV a).cap.miC n 0 0 = (m.gV a).cap.withB n := by unfold Cap.miC; rw [if_pos hep]
    refine ⟨e, ?_⟩
    unfold M.miX
    rw [if_pos e, cc, mc]
    have D1 := D.of_w (coXe_w m a b)
    have hrb := ep_right (D.right a) ht hn
    have hs : slotRB ⟨(m.gV a).cap.withB n, 0, 0, 0⟩ = true := by
      have h4 : (((m.gV a).cap.withB n).ty == 0) = false := by
        show ((m.gV a).cap.ty == 0) = false
        rcases ht with h | h <;> rw [h] <;> rfl
      simp only [slotRB, hrb, h4, Bool.false_and, Bool.not_false, link_0]
      rfl
    obtain ⟨_, D2, e3, _, e5⟩ := D1.lay (r := m.coX M.enX a b) rfl (.inr haL) (PL_PB hb) hbL (c := (m.gV a).cap.withB n) (by
      show (m.gV a).cap.ty ≠ 0
      rcases ht with h | h <;> rw [h] <;> decide) hs
    refine ⟨(e3 b).trans (D1.gE (PL_PB hb)), ?_⟩
    rw [e5 b (D.n0 (PL_PB hb)), jnV_cap, if_pos rfl]
end
end Go.Proofs.YtpmobbehdpgnbaaGreat

/- Law 12: DeriveBadge: the walk. -/
namespace Go.Proofs.YtpmobbehdpgnbaaGreat
open Go.D
open Nat (reduceAdd reducePow reduceMul reduceSub reduceLeDiff reduceLT reduceEqDiff)
open Int (reduceNeg reduceLE reduceEq reduceNe reduceToNat)
open Go.D renaming istep → zy, pickR → zx, bin1R → zw, un1R → zv, eqS → zu, eq1 → zq, cmpS → zp, cmp1 → zj, isNil → zk, shows → zg, result → zZ, q_cond_t → zV, q_cond_f → zU
open List renaming set → zY, replicate → zX
open Option renaming map → zW
open Nat renaming reduceAdd → zQ, reducePow → yz, reduceMul → yy, reduceSub → yx, reduceLeDiff → yw, reduceLT → yv, reduceEqDiff → yu
open Int renaming reduceNeg → yq, reduceLE → yj, reduceEq → yk, reduceNe → yg, reduceToNat → yZ, reducePow → yY, reduceLT → yX, reduceAdd → yW, reduceSub → yV, reduceMul → yU, reduceBEq → yQ, reduceBNe → xz
set_option linter.all false
set_option maxRecDepth 100000
set_option maxHeartbeats 8000000

def deriveBadgeS : FSpec := fun args h K => ∃ (s : S) (L : List Act) (p q n : Int), args = [.s s, .s (.i .i64 p), .s (.i .i64 q), .s (.i .i64 n)] ∧ IsArr Act.cl h s L ∧ (∀ x, x ∈ L → x.u) ∧ L.length ≤ 9223372036854775807 ∧ i64b p ∧ i64b q ∧ i64b n ∧ ∀ h', K (.s (.b true)) h'
noncomputable def TPm : Tab := addT 18 plcG (addT 19 get2G (addT 20 mi9G (TPl)))
theorem TPm_snd : TPm.Snd Tryz.prog := addT_snd ok18 plc_snd (addT_snd ok19 get2_snd (addT_snd ok20 mi9_snd (TPl_snd)))
theorem deriveBadge_snd : Snd Tryz.prog 6 deriveBadgeS := (fwp_sound (Tab.snd_Γ TPm_snd) mixed Tryz.func6 dc6).weaken fun args h K hc hS => by
  obtain ⟨s, L, p, q, n, rfl, Hs, hu, l1, up, uq, un, hK⟩ := hS
  refine fwp_run (Tab.ok_Γ _) 400 ?_
  have hlen := fun ls h' => Hs.sl.len (ls := ls) (h := h')
  have hkn := Hs.sl.known
  have hnl := Hs.sl.noL
  simp (config := {maxSteps := 9999999}) only [EV0, zy, zx, zw, zv, zu, zq, zp, zj, zk, leT, zg, rvC, zZ, zY, zX, zW, ↓zV, ↓zU, reduceCtorEq, zQ, yz, yY, yy, yx, yw, yv, yu, yq, yX, yj, yk, yg, yW, yV, yU, yZ, yQ, xz, df6, TPm, TPl, awake12G, basedG, ↓hlen, ↓hkn, ↓hnl]
  refine loop_rule (α := Nat × M × M) [11, 25, 26, 27, 28, 29, 30, 31, 32, 33, 34, 35, 36, 37, 38, 39, 40] (fun x => [(11, .s (.i .i64 (x.1 : Int)))]) (fun _ => []) (fun x => wH h x.2.1 x.2.2 []) (fun x => x.1 ≤ L.length ∧ x.2.2.w = x.2.1.w ∧ (∃ Q, DI x.2.1 Q)) (fun x => L.length - x.1) (0, baseC, baseM) ⟨Nat.zero_le _, baseC_w.symm, DI_base⟩ ?_ ?_
  · refine Wk.same rfl rfl ?_
    simp (config := {maxSteps := 9999999}) only [EV0, zy, zx, zw, zv, zu, zq, zp, zj, zk, leT, zg, rvC, zZ, zY, zX, zW, ↓zV, ↓zU, reduceCtorEq, zQ, yz, yY, yy, yx, yw, yv, yu, yq, yX, yj, yk, yg, yW, yV, yU, yZ, yQ, xz, Int.natCast_zero]
  · rintro X ⟨i, m, r⟩ ⟨hi, hw, ⟨Q, D⟩⟩ IH
    simp only at hi hw D ⊢
    by_cases h2 : i < L.length ∧ i < 60
    · obtain ⟨h1, h100⟩ := h2
      obtain ⟨d1, d2, d3, d4⟩ := idx h1 l1
      have c100 : (i : Int) < 60 := by omega
      obtain ⟨j, cc, st, room, hse, hj, hd⟩ := Hs.at h1
      obtain ⟨x, hx⟩ : ∃ x, nth actZ L i = x := ⟨_, rfl⟩
      have hxu : x.u := by rw [← hx]; exact hu _ (nth_mem h1)
      have hs : sub (arr Act.cl L) (i * 8) 8 = x.cl := by rw [← hx, nth_eq h1]; exact arr_sub Act.cl_len h1
      have hle : i * 8 + 8 ≤ (arr Act.cl L).length := by rw [arr_length Act.cl_len]; omega
      simp only [Act.cl] at hs
      obtain ⟨e1, Cf, hD, hF⟩ := D.act hw hxu
      have hob : ∀ m r, (wH h m r [])[j]? = _ := fun m r => wH_old hj m r []
      subst hse
      refine run_sound (Tab.ok_Γ _) 300 _ _ _ _ ?_
      simp (config := {maxSteps := 9999999}) only [EV0, zy, zx, zw, zv, zu, zq, zp, zj, zk, leT, zg, rvC, zZ, zY, zX, zW, ↓zV, ↓zU, reduceCtorEq, zQ, yz, yY, yy, yx, yw, yv, yu, yq, yX, yj, yk, yg, yW, yV, yU, yZ, yQ, xz, TPm, TPl, doesG, doesM, actF, act_eta, wldF_eq, ↓hlen, ↓hkn, ↓hnl, d1, d2, d3, d4, c100, hob, hd, hs, hle, Int.toNat_natCast]
      exact IH (i + 1, (m.act x).2, (r.ract x).2) _ (by simp only; omega) ⟨by simp only; omega, hD.w, hD.L⟩ (Wk.same rfl rfl (by simp (config := {maxSteps := 9999999}) only [EV0, zy, zx, zw, zv, zu, zq, zp, zj, zk, leT, zg, rvC, zZ, zY, zX, zW, ↓zV, ↓zU, reduceCtorEq, zQ, yz, yY, yy, yx, yw, yv, yu, yq, yX, yj, yk, yg, yW, yV, yU, yZ, yQ, xz]))
    · have hex := exit2 h2
      clear IH h2
      simp only [show ((60 : Nat) : Int) = 60 from rfl] at hex
      have hB : ∀ m' : M, (wH h m' r [])[h.length + 4]? = some ⟨.rw, [.p (.g (h.length + 2)) 0, .p (.g h.length) 0], 2⟩ := fun m' => wH_at h m' r []
      have hpP := plc_PL up
      have hqP := plc_PL uq
      obtain ⟨a, hae⟩ : ∃ a, plcV p = a := ⟨_, rfl⟩
      obtain ⟨b, hbe⟩ : ∃ b, plcV q = b := ⟨_, rfl⟩
      rw [hae] at hpP
      rw [hbe] at hqP
      have gE1 := D.gE (PL_PB hpP)
      have gE2 := D.gE (PL_PB hqP)
      have hM := fun n h1 h2 => D.mint (a := a) (b := b) (n := n) hpP hqP h1 h2
      obtain ⟨⟨⟨c0, c1, c2, c3, c4, c5, c6, c7, c8, c9, c10⟩, p0, q0, r0⟩, hca⟩ : ∃ s, m.gV a = s := ⟨_, rfl⟩
      obtain ⟨⟨⟨b0, b1, b2, b3, b4, b5, b6, b7, b8, b9, b10⟩, p1, q1, r1⟩, hcb⟩ : ∃ s, m.gV b = s := ⟨_, rfl⟩
      simp only [hca, hcb] at hM
      obtain ⟨mm, hmm⟩ : ∃ mm, ((m.gX a).gX b).miX M.enX M.layX a b 7 n 0 0 = mm := ⟨_, rfl⟩
      have ww : ((m.gX a).gX b).w = m.w := by simp only [gX_w]
      have D2 := D.of_w ww
      have hM2 := fun h1 h2 => D2.mint (a := a) (b := b) (n := n) hpP hqP h1 h2
      rw [hmm] at hM2
      simp only [gV_fun ww, hca, hcb, ww] at hM2
      clear hM
      rcases hex with ⟨f1, f2⟩ | ⟨f1, f2⟩
      all_goals
        cases k4 : c0 == 4
        all_goals cases k5 : c0 == 5
        all_goals cases k0 : b0 == 0
        all_goals try (exfalso; simp only [beq_iff_eq] at k4 k5; omega)
        all_goals try (
          refine run_sound (Tab.ok_Γ _) 300 _ _ _ _ ?_
          simp (config := {maxSteps := 9999999}) only [EV0, zy, zx, zw, zv, zu, zq, zp, zj, zk, leT, zg, rvC, zZ, zY, zX, zW, ↓zV, ↓zU, reduceCtorEq, zQ, yz, yY, yy, yx, yw, yv, yu, yq, yX, yj, yk, yg, yW, yV, yU, yZ, yQ, xz, TPm, TPl, ↓hlen, ↓hkn, ↓hnl, f1, f2, plcG, get2G, get2M, hB, wH_m, hae, hbe, gE1, gE2, gX_gE, gX_gV, hca, hcb, k4, k5, k0, bne, Slot.cl, Cap.cl, put, fillP, EVt]
          exact hK _)
        all_goals (
          have hM3 := hM2 (by first | exact .inl (by simpa using k4) | exact .inr (by simpa using k5)) (by simpa using k0)
          obtain ⟨hz, hM4, hM5, hM6⟩ := hM3
          simp only [slotZ, capZ, Slot.mk.injEq, Cap.mk.injEq] at hz
          obtain ⟨⟨rfl, rfl, rfl, rfl, rfl, rfl, rfl, rfl, rfl, rfl, rfl⟩, rfl, rfl, rfl⟩ := hz
          by_cases hbd : c6 = 0
          · have kb : (c6 == 0) = true := by simpa using hbd
            cases hbb : bdgB n
            · obtain ⟨e1, e2⟩ := hM5 hbd hbb
              have e3 : mm.gE b = 0 := by rw [gE_w e2]; exact gE2
              have e4 : mm.gV b = _ := (gV_w e2 b).trans hcb
              by_cases n0 : n < 0
              · refine run_sound (Tab.ok_Γ _) 300 _ _ _ _ ?_
                simp (config := {maxSteps := 9999999}) only [EV0, zy, zx, zw, zv, zu, zq, zp, zj, zk, leT, zg, rvC, zZ, zY, zX, zW, ↓zV, ↓zU, reduceCtorEq, zQ, yz, yY, yy, yx, yw, yv, yu, yq, yX, yj, yk, yg, yW, yV, yU, yZ, yQ, xz, TPm, TPl, ↓hlen, ↓hkn, ↓hnl, f1, f2, plcG, get2G, get2M, mi9G, mi9M, hB, wH_m, hae, hbe, gE1, gE2, gX_gE, gX_gV, hca, hcb, hmm, k4, k5, bne, Slot.cl, Cap.cl, put, fillP, EVt, kb, e1, e3, e4, n0]
                exact hK _
              · have n1 : 268435456 ≤ n := by
                  have : ¬ (0 ≤ n ∧ n < 268435456) := fun h => by
                    have : bdgB n = true := by unfold bdgB; simp [h.1, h.2]
                    rw [this] at hbb; cases hbb
                  omega
                refine run_sound (Tab.ok_Γ _) 300 _ _ _ _ ?_
                simp (config := {maxSteps := 9999999}) only [EV0, zy, zx, zw, zv, zu, zq, zp, zj, zk, leT, zg, rvC, zZ, zY, zX, zW, ↓zV, ↓zU, reduceCtorEq, zQ, yz, yY, yy, yx, yw, yv, yu, yq, yX, yj, yk, yg, yW, yV, yU, yZ, yQ, xz, TPm, TPl, ↓hlen, ↓hkn, ↓hnl, f1, f2, plcG, get2G, get2M, mi9G, mi9M, hB, wH_m, hae, hbe, gE1, gE2, gX_gE, gX_gV, hca, hcb, hmm, k4, k5, bne, Slot.cl, Cap.cl, put, fillP, EVt, kb, e1, e3, e4, n0, n1]
                exact hK _
            · obtain ⟨e1, e3, e2⟩ := hM6 hbd hbb
              have hn2 : 0 ≤ n ∧ n < 268435456 := by simpa [bdgB] using hbb
              have n0 : ¬ n < 0 := by omega
              have n1 : ¬ 268435456 ≤ n := by omega
              obtain ⟨⟨u, p2, q2, r2⟩, e4⟩ : ∃ s, mm.gV b = s := ⟨_, rfl⟩
              rw [e4] at e2
              simp only [Cap.withB] at e2
              subst e2
              refine run_sound (Tab.ok_Γ _) 300 _ _ _ _ ?_
              simp (config := {maxSteps := 9999999}) only [EV0, zy, zx, zw, zv, zu, zq, zp, zj, zk, leT, zg, rvC, zZ, zY, zX, zW, ↓zV, ↓zU, reduceCtorEq, zQ, yz, yY, yy, yx, yw, yv, yu, yq, yX, yj, yk, yg, yW, yV, yU, yZ, yQ, xz, TPm, TPl, ↓hlen, ↓hkn, ↓hnl, f1, f2, plcG, get2G, get2M, mi9G, mi9M, hB, wH_m, hae, hbe, gE1, gE2, gX_gE, gX_gV, hca, hcb, hmm, k4, k5, bne, Slot.cl, Cap.cl, put, fillP, EVt, kb, e1, e3, e4, n0, n1]
              exact hK _
          · have kb : (c6 == 0) = false := by simpa using hbd
            obtain ⟨e1, e2⟩ := hM4 hbd
            have e3 : mm.gE b = 0 := by rw [gE_w e2]; exact gE2
            have e4 : mm.gV b = _ := (gV_w e2 b).trans hcb
            refine run_sound (Tab.ok_Γ _) 300 _ _ _ _ ?_
            simp (config := {maxSteps := 9999999}) only [EV0, zy, zx, zw, zv, zu, zq, zp, zj, zk, leT, zg, rvC, zZ, zY, zX, zW, ↓zV, ↓zU, reduceCtorEq, zQ, yz, yY, yy, yx, yw, yv, yu, yq, yX, yj, yk, yg, yW, yV, yU, yZ, yQ, xz, TPm, TPl, ↓hlen, ↓hkn, ↓hnl, f1, f2, plcG, get2G, get2M, mi9G, mi9M, hB, wH_m, hae, hbe, gE1, gE2, gX_gE, gX_gV, hca, hcb, hmm, k4, k5, bne, Slot.cl, Cap.cl, put, fillP, EVt, kb, e1, e3, e4]
            exact hK _)
end Go.Proofs.YtpmobbehdpgnbaaGreat

/- DeriveBadge: for every input the law's Go function answers true, and its arguments read behind the call as before. No conditions. -/
namespace Go.Proofs.YtpmobbehdpgnbaaGreat
open Go.D
set_option linter.all false
set_option maxRecDepth 100000

theorem deriveBadge_law : Law deriveBadgeS [(false, [.slice ActT]), (false, [.int .i64]), (false, [.int .i64]), (false, [.int .i64])] := by
  intro h us H hc
  obtain ⟨_, _, rfl, H1, H⟩ := lawC H
  obtain ⟨_, _, rfl, H2, H⟩ := lawC H
  obtain ⟨_, _, rfl, H3, H⟩ := lawC H
  obtain ⟨_, _, rfl, H4, H⟩ := lawC H
  obtain rfl := lawN H
  obtain ⟨s, L, rfl, e1, e2, e3⟩ := hasV_slice (c := Act.cl) (p := Act.u) (fun ss h => hasTs_act h) H1
  obtain ⟨p, rfl, up⟩ := hasV_int H2
  obtain ⟨q, rfl, uq⟩ := hasV_int H3
  obtain ⟨n, rfl, un⟩ := hasV_int H4
  exact ⟨s, L, p, q, n, rfl, e1, e2, by omega, i64_b up, i64_b uq, i64_b un, fun _ => rfl⟩
theorem deriveBadge_row : RowOk Tryz.prog 6 Tryz.f6 Rows.deriveBadgeSpec [(false, [.slice ActT]), (false, [.int .i64]), (false, [.int .i64]), (false, [.int .i64])] where
  own := own
  noTabs := rfl
  noInit := by kernel_rfl
  isf := Tryz.func6
  laid := laid
  rowed := rowed
  full := full
  params := by kernel_rfl
  vars := rfl
  ret := ⟨_, rfl, by kernel_rfl⟩
  spec := fun H ds e => by
    match ds, e with
    | [_, _, _, _], _ => rfl
  tys := ⟨20, by kernel_rfl⟩
theorem deriveBadge_holds : Rows.DeriveBadgeSaid :=
  OpenClaim.holds_of_wide 6 Tryz.f6 rfl rfl rfl rfl rfl rfl rfl ⟨rfl, rfl, rfl, rfl, rfl⟩ rfl rfl rfl rfl rfl (by kernel_rfl) Tryz.func6 (by kernel_rfl)
    (of_decide_eq_true (by kernel_rfl)) (by unfold Func.isWrapper; first | (rw [if_pos (by decide +kernel)]; kernel_rfl) | (rw [if_neg (by decide +kernel)]; exact ⟨rfl, rfl⟩))
    (fun os started H enc _ => deriveBadge_row.lifted (C := Tryz.checked) deriveBadge_snd deriveBadge_law started (ChangeSpec.witness6 (enc := enc) (C := Tryz.checked) false ⟨#[], #[.slice none 0 0, .int .i64 0, .int .i64 0, .int .i64 0], []⟩ 8 (by kernel_rfl) (by kernel_rfl) (by kernel_rfl) (by kernel_rfl)))
end Go.Proofs.YtpmobbehdpgnbaaGreat

