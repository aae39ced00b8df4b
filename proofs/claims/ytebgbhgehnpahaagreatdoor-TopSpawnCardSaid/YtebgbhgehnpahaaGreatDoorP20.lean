/- A part of the proof of the claim that the last text of this folder states. -/
import Derived.Test.YtebgbhgehnpahaaGreatDoorProg
import Derived.WalkKit
import Derived.WalkSpells
import Derived.WalkLawsBesides
import Derived.Test.YtebgbhgehnpahaaGreatDoorP10
namespace Go.E
open Go.RowKit Go.Proofs
set_option maxHeartbeats 400000 in
theorem pick_pos (a b : Int) (w : World) (h0 : 0 ≤ a) (h1 : a < 9223372036854775808) (hb : 0 < b) (hb1 : b < 9223372036854775808) :
    Calls Tryz.prog 17 #[.int .i64 a, .int .i64 b] w fun e w' => e = .returned (.int .i64 (a % b)) ∧ w' = w := by
  go_enter Tryz.func17, Tryz.ntmps17
  go_wp2
  go_ret
  exact ⟨rfl, rfl⟩
set_option maxHeartbeats 400000 in
theorem pick_neg (a b : Int) (w : World) (h0 : a < 0) (h1 : -9223372036854775808 ≤ a) (hb : 0 < b) (hb1 : b < 9223372036854775808) :
    Calls Tryz.prog 17 #[.int .i64 a, .int .i64 b] w fun e w' => e = .returned (.int .i64 ((-(a + 1)) % b)) ∧ w' = w := by
  go_enter Tryz.func17, Tryz.ntmps17
  go_wp2
  go_ret
  refine ⟨?_, rfl⟩
  show Ending.returned (.int .i64 (-(a + 1).tmod b)) = _
  rw [← Int.neg_tmod, Int.tmod_eq_emod_of_nonneg (by omega)]
def pickV (a b : Int) : Int := if a < 0 then (-(a + 1)) % b else a % b
theorem sym_val {κ : KP} {e : Env} {j : Nat} (hj : j < 1000) (hκ : EK e κ) : vl e ((symN + j : Nat) : Int) = κ.ρ j := by
  unfold vl
  rw [if_pos (by unfold symN; omega), if_pos (by omega), if_neg (by unfold symN gN; omega), hκ.2.1]
  have h9 : ((symN + j : Nat) : Int).toNat - symN = j := by omega
  rw [h9]
set_option maxRecDepth 100000 in
theorem pick_gen {κ : KP} {j : Nat} {b m : Nat} (hj : kn ((symN + j : Nat) : Int) = true) (hw : (Lit.int .i64 (κ.ρ j)).wf = true) (hb : 0 < b) (hb1 : b < 9223372036854775808) (hc : ∀ e, EK e κ → vl e (.ofNat m) = pickV (κ.ρ j) b) (hj1 : j < 1000 := by decide) {Y : Lay} :
    CalOk Y Tryz.prog κ (oraC (Pth.of 17) [.s (.i .i64 ((symN + j : Nat) : Int)), .s (.i .i64 (.ofNat b))] (.s (.i .i64 (.ofNat m)))) := by
  simp [Lit.wf, IntKind.min, IntKind.max, IntKind.bits, IntKind.signed] at hw
  have hv : ∀ (e : Env) (m : Nat), m < 9223372036854775808 → vl e (.ofNat m) = m := fun e m hm => vl_lt (by show (m : Int) < _; omega)
  refine oraC_ok ?_ rfl ?_ fun e w hκ => ?_
  · simp only [List.all_cons, List.all_nil, V.nU, nU, hj, Bool.and_true, Bool.true_and]
    exact kn_lt (by show (b : Int) < _; omega)
  · rw [Pth.of_n]; exact ⟨Tryz.f17, Tryz.func17, rfl, by kernel_rfl⟩
  · simp only [List.map_cons, List.map_nil, V.tr, S.tr, sym_val hj1 hκ, hv e b hb1, hc e hκ, Pth.of_n]
    by_cases h0 : κ.ρ j < 0
    · have := pick_neg (κ.ρ j) b w h0 (by omega) (by omega) (by omega)
      unfold pickV
      rw [if_pos h0]
      exact this
    · have := pick_pos (κ.ρ j) b w (by omega) (by omega) (by omega) (by omega)
      unfold pickV
      rw [if_neg h0]
      exact this
theorem pick_ok {κ : KP} {j : Nat} {b c : Nat} (hj : kn ((symN + j : Nat) : Int) = true) (hw : (Lit.int .i64 (κ.ρ j)).wf = true) (hb : 0 < b) (hb1 : b < 9223372036854775808) (hc : pickV (κ.ρ j) b = c) (hj1 : j < 1000 := by decide) {Y : Lay} :
    CalOk Y Tryz.prog κ (oraC (Pth.of 17) [.s (.i .i64 ((symN + j : Nat) : Int)), .s (.i .i64 (.ofNat b))] (.s (.i .i64 (.ofNat c)))) := by
  have hcb : (c : Int) < b := by
    rw [← hc]; unfold pickV
    split <;> exact Int.emod_lt_of_pos _ (by omega)
  exact pick_gen hj hw hb hb1 (fun e _ => by rw [hc]; exact vl_lt (by show (c : Int) < _; omega)) hj1
theorem fld_val {e : Env} {n j : Nat} {b : Int} (hY : isY n = true) (h1 : sC n = 0) (h2 : sQ n = 0) (h3 : sJ n = j) (hρ : e.ρ j = b) (hb : (sLb j : Int) ≤ b) (hb1 : b ≤ sBd j) : vl e (.ofNat n) = b := by
  have := sLb_le j
  rw [vl_Y hY, h1, h2, h3]
  unfold fval
  rw [hρ, Nat.mod_eq_of_lt (by omega)]
  omega
theorem fld_valM {e : Env} {n j : Nat} {b : Int} (hY : isYM n = true) (h1 : sC n = 0) (h2 : sQ n = 0) (h3 : sJ n = j) (hρ : e.ρ j = b) (hb : 1 ≤ b) (hb1 : b ≤ sBd j) : vl e (.ofNat n) = b - 1 := by
  have hl := (isYM_out hY).2.2.2
  rw [h3] at hl
  rw [vl_YM hY, h1, h2, h3]
  unfold fval
  rw [hρ, hl, Nat.mod_eq_of_lt (by omega)]
  omega
theorem pick_rg {a b : Int} (hb : 0 < b) : 0 ≤ pickV a b ∧ pickV a b < b := by
  unfold pickV
  split <;> exact ⟨Int.emod_nonneg _ (by omega), Int.emod_lt_of_pos _ hb⟩
end Go.E
