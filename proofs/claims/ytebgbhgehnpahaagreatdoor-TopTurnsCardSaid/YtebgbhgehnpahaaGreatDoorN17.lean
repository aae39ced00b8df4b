/- A part of the proof of the claim that the last text of this folder states. -/
import Derived.Test.YtebgbhgehnpahaaGreatDoorN16
namespace Go.E
open Go.RowKit Go.Proofs
set_option linter.all false
theorem mark_pow' {a : Nat} (ha : a < 64) (on b : Bool) : markV (if b then 2 ^ a else 0) a on = if on then 2 ^ a else 0 := by
  obtain ⟨h1, h2, h3, h4⟩ := mark_pow ⟨a, ha⟩
  cases on <;> cases b
  · exact h4
  · exact h3
  · exact h2
  · exact h1
theorem pow_lt {a : Nat} (ha : a < 64) : 2 ^ a < 18446744073709551616 := Nat.pow_lt_pow_right (by decide : 1 < 2) ha
theorem or_eq {hd tl : Nat} (h1 : hd < 65536) (h2 : tl < 65536) : bits .or .u64 (IntKind.u64.wrap (IntKind.u64.wrap (tl : Int) * 65536)) (IntKind.u64.wrap (hd : Int)) = ((Nat.lor (tl * 65536) hd : Nat) : Int) ∧ Nat.lor (tl * 65536) hd < 18446744073709551616 := by
  have hl : Nat.lor (tl * 65536) hd < 2 ^ 64 := Nat.or_lt_two_pow (by omega) (by omega)
  refine ⟨?_, hl⟩
  rw [w_u64 (tl : Int) (by omega) (by omega), w_u64 (hd : Int) (by omega) (by omega), w_u64 ((tl : Int) * 65536) (by omega) (by omega), show (tl : Int) * 65536 = ((tl * 65536 : Nat) : Int) by omega,
    bits_or64 _ _ (by omega) (by omega) rfl, w_u64 _ (by omega) (by omega)]
theorem lor_zero {hd tl : Nat} (h0 : hd = 0 → tl = 0) : Nat.lor (tl * 65536) hd = 0 ↔ hd = 0 := by
  constructor
  · intro h
    exact (Nat.or_eq_zero_iff.1 h).2
  · intro h
    rw [h, h0 h]
    rfl
theorem setEnds_q {e : Env} {h : Hp} {w : World} {r q : Pth} {n k m D : Nat} {d : Wt} (G : MemR e h w r q n k m D d) {Q M : Nat} {rr : List (Nat × Int)} (hQ : QD d Q rr M) (hn : 512 ≤ n) {hd tl : Nat} (h1 : hd < 65536) (h2 : tl < 65536) (h0 : hd = 0 → tl = 0) :
    Calls Tryz.prog 120 #[.pointer (some (adr e r 0)), .int .i64 (fval e.ρ 16 : Int), .int .i64 (hd : Int), .int .i64 (tl : Int)] w fun en w' => en = .returned (.tuple #[]) ∧ Step e h w e (h.set q (.w .u64 m D (qS (Nat.lor (tl * 65536) hd) rr M))) w' := by
  have hs := fv16 e
  obtain ⟨eL, hL⟩ := or_eq h1 h2
  have hz := lor_zero h0
  have hdk : d.kns = true := by have hv := G.H.val q G.hq; rw [G.aq] at hv; exact hv
  have hB : ∀ (p : Prop) [Decidable p] (a : Nat), a < 64 → vl e (if p then .ofNat 0 else .ofNat (2 ^ a)) = (if (!decide p : Bool) then 2 ^ a else 0 : Int) ∧ kn (if p then .ofNat 0 else .ofNat (2 ^ a)) = true := fun p _ a ha => by
    by_cases c : p
    · rw [if_pos c, decide_eq_true c]; exact ⟨vl_nat (a := 0) (by omega), kn_word (by omega)⟩
    · rw [if_neg c, decide_eq_false c]; exact ⟨by rw [vl_nat (pow_lt ha), Int.natCast_pow]; rfl, kn_word (pow_lt ha)⟩
  generalize hs' : fval e.ρ 16 = s at *
  obtain ⟨y1, y2⟩ := hB (hd = 0) (s % 64) (by omega)
  obtain ⟨z1, z2⟩ := hB (hd = 0) (s / 64) (by omega)
  have V8 := hQ.vals (e := e) (i := 8 + s / 64) (by simp only [spc, Bool.or_eq_true, Bool.and_eq_true, decide_eq_true_eq, beq_iff_eq]; omega)
  have V4 := hQ.vals (e := e) (i := 4) rfl
  rw [hs', if_neg (show ¬ (8 + s / 64 = 4) by omega), if_pos (show 8 + s / 64 < 12 by omega), if_pos rfl] at V8
  rw [hs', if_pos rfl] at V4
  have hne : ((hd : Int) != 0) = !decide (hd = 0) := by
    by_cases c : hd = 0
    · subst c; rfl
    · rw [decide_eq_false c]; simp; omega
  have hqq : ∀ a : Nat, (if Q = 0 then (0 : Int) else 2 ^ a) = if (!decide (Q = 0) : Bool) then 2 ^ a else 0 := fun a => by
    by_cases c : Q = 0
    · rw [if_pos c, decide_eq_true c]; rfl
    · rw [if_neg c, decide_eq_false c]; rfl
  have R := setEnds_rel G (s := s) hs hn (hd := hd) (tl := tl) (x := .ofNat (Nat.lor (tl * 65536) hd)) (y := if hd = 0 then .ofNat 0 else .ofNat (2 ^ (s % 64))) (z := if hd = 0 then .ofNat 0 else .ofNat (2 ^ (s / 64)))
    (kn_word hL) y2 z2 (by rw [eL, vl_nat hL])
    (by rw [wg_wst', if_neg (by omega), V8, y1, hqq, mark_pow' (by omega), hne])
    (by
      rw [wg_wst', if_neg (by omega), wg_wst', if_neg (by omega), V4, z1, hqq, mark_pow' (by omega)]
      have : (vl e (if hd = 0 then .ofNat 0 else .ofNat (2 ^ (s % 64))) != 0) = !decide (hd = 0) := by
        rw [y1]
        by_cases c : hd = 0
        · rw [decide_eq_true c]; rfl
        · rw [decide_eq_false c]
          have : (0 : Int) < 2 ^ (s % 64) := Int.pow_pos (by decide)
          simp only [Bool.not_false, if_true]
          simp; omega
      rw [this])
  refine R.mono ?_
  rintro en w' ⟨rfl, S, G'⟩
  refine ⟨rfl, ?_⟩
  have T := S.trans (MemR.same G' (d' := qS (Nat.lor (tl * 65536) hd) rr M) (kns_qS hQ hdk hL) fun i hi => ?_)
  · have A := Step.ats (b' := (h.set q (.w .u64 m D (qS (Nat.lor (tl * 65536) hd) rr M))).b) T fun p => by
      show (h.set q (.w .u64 m D (qS (Nat.lor (tl * 65536) hd) rr M))).at p = _
      rw [Hp.at_set, Hp.at_set, Hp.at_set, Hp.at_set, Hp.at_set]
      by_cases c : p = q
      · rw [if_pos c, if_pos c]
      · rw [if_neg c, if_neg c, if_neg c, if_neg c, if_neg c]
    exact A
  · have hQ' := hQ.set hL
    rw [wg_wst', wg_wst', wg_wst']
    by_cases hi : spc i = true
    · rw [hQ'.vals hi, hs']
      have hz' : (Nat.lor (tl * 65536) hd = 0) = (hd = 0) := propext hz
      simp only [hz']
      have hv := hQ.vals (e := e) hi
      rw [hs'] at hv
      simp only [spc, Bool.or_eq_true, Bool.and_eq_true, decide_eq_true_eq, beq_iff_eq] at hi
      by_cases c4 : i = 4
      · rw [if_pos c4, if_pos c4, z1]
        by_cases c : hd = 0
        · rw [if_pos c, decide_eq_true c]; rfl
        · rw [if_neg c, decide_eq_false c]; rfl
      rw [if_neg c4, if_neg c4]
      by_cases c8 : i = 8 + s / 64
      · rw [if_pos (show i < 12 by omega), if_pos c8, if_pos c8, y1]
        by_cases c : hd = 0
        · rw [if_pos c, decide_eq_true c]; rfl
        · rw [if_neg c, decide_eq_false c]; rfl
      rw [if_neg c8, if_neg c8]
      by_cases cq : i = 256 + s
      · rw [if_neg (show ¬ i < 12 by omega), if_pos cq, if_pos cq, vl_nat hL]
        by_cases c : hd = 0
        · rw [if_pos c, hz.2 c]; rfl
        · rw [if_neg c]
      rw [if_neg cq, if_neg cq, hv, if_neg c4, if_neg c8, if_neg cq]
      simp
    · have hi' : spc i = false := by simpa using hi
      have a4 : i ≠ 4 := fun c => by rw [c] at hi; exact hi rfl
      have hx : ∀ j, spc j = true → i ≠ j := fun j hj c => hi (by rw [c]; exact hj)
      rw [if_neg a4, if_neg (hx _ (by simp only [spc, Bool.or_eq_true, Bool.and_eq_true, decide_eq_true_eq, beq_iff_eq]; omega)), if_neg (hx _ (by simp only [spc, Bool.or_eq_true, Bool.and_eq_true, decide_eq_true_eq, beq_iff_eq]; omega)), hQ'.at_not hi', hQ.at_not hi']
open Go.RowKit Go.Proofs
set_option linter.all false
theorem lo_eq (x : Nat) (hx : x < 18446744073709551616) : wrap64 (bits .and .u64 (x : Int) 65535) = ((x % 65536 : Nat) : Int) := by
  rw [show (65535 : Int) = ((65535 : Nat) : Int) from rfl, bits_and64 _ _ hx (by omega) rfl]
  have : Nat.land x 65535 = x % 65536 := Nat.and_two_pow_sub_one_eq_mod x 16
  rw [this, w_u64 _ (by omega) (by omega)]
  unfold wrap64; omega
theorem ends_q {e : Env} {h : Hp} {w : World} {r q : Pth} {n k m D : Nat} {d : Wt} (G : MemR e h w r q n k m D d) {Q M : Nat} {rr : List (Nat × Int)} (hQ : QD d Q rr M) (hn : 512 ≤ n) :
    Calls Tryz.prog 116 #[.pointer (some (adr e r 0)), .int .i64 (fval e.ρ 16 : Int)] w fun en w' => en = .returned (.tuple #[.int .i64 ((Q % 65536 : Nat) : Int), .int .i64 ((Q / 65536 % 65536 : Nat) : Int)]) ∧ Step e h w e h w' := by
  have hs := fv16 e
  have V := hQ.vals (e := e) (i := 256 + fval e.ρ 16) (by simp only [spc, Bool.or_eq_true, Bool.and_eq_true, decide_eq_true_eq, beq_iff_eq]; omega)
  rw [if_neg (show ¬ (256 + fval e.ρ 16 = 4) by omega), if_neg (show ¬ (256 + fval e.ρ 16 < 12) by omega), if_pos rfl] at V
  have V : vl e (wg d (256 + fval e.ρ 16)) = (Q : Int) := by
    rw [V]
    split
    · rename_i c; rw [c]; rfl
    · rfl
  obtain ⟨⟨s, M⟩, hne, _⟩ := G.memW (i := 256 + fval e.ρ 16) (by omega)
  refine (ends_any (e.σ r).1 (e.σ r).2 (e.σ q).1 (e.σ q).2 n k s _ (fval e.ρ 16) w M.h0 M.h1 M.hf hs M.hx hne hn G.hn G.nk).mono ?_
  rintro en w' ⟨rfl, rfl⟩
  have hq := hQ.Q
  rw [V, lo_eq Q hq, show (Q : Int) / 65536 = ((Q / 65536 : Nat) : Int) by omega, lo_eq (Q / 65536) (by omega)]
  exact ⟨rfl, (G.tick _).1⟩
open Go.RowKit Go.Proofs
set_option linter.all false
set_option maxRecDepth 100000 in
theorem high_z (w : World) : Calls Tryz.prog 114 #[.int .u64 0] w fun en w' => en = .returned (.int .i64 (-1)) ∧ w' = w := by
  go_enter Tryz.func114, Tryz.ntmps114
  go_wp2
  go_ret
  exact ⟨by kernel_rfl, rfl⟩
set_option maxRecDepth 100000 in
theorem high_0 (w : World) : Calls Tryz.prog 114 #[.int .u64 1] w fun en w' => en = .returned (.int .i64 (0)) ∧ w' = w := by
  go_enter Tryz.func114, Tryz.ntmps114
  go_wp2
  go_ret
  exact ⟨by kernel_rfl, rfl⟩
set_option maxRecDepth 100000 in
theorem high_1 (w : World) : Calls Tryz.prog 114 #[.int .u64 2] w fun en w' => en = .returned (.int .i64 (1)) ∧ w' = w := by
  go_enter Tryz.func114, Tryz.ntmps114
  go_wp2
  go_ret
  exact ⟨by kernel_rfl, rfl⟩
set_option maxRecDepth 100000 in
theorem high_2 (w : World) : Calls Tryz.prog 114 #[.int .u64 4] w fun en w' => en = .returned (.int .i64 (2)) ∧ w' = w := by
  go_enter Tryz.func114, Tryz.ntmps114
  go_wp2
  go_ret
  exact ⟨by kernel_rfl, rfl⟩
set_option maxRecDepth 100000 in
theorem high_3 (w : World) : Calls Tryz.prog 114 #[.int .u64 8] w fun en w' => en = .returned (.int .i64 (3)) ∧ w' = w := by
  go_enter Tryz.func114, Tryz.ntmps114
  go_wp2
  go_ret
  exact ⟨by kernel_rfl, rfl⟩
set_option maxRecDepth 100000 in
theorem high_4 (w : World) : Calls Tryz.prog 114 #[.int .u64 16] w fun en w' => en = .returned (.int .i64 (4)) ∧ w' = w := by
  go_enter Tryz.func114, Tryz.ntmps114
  go_wp2
  go_ret
  exact ⟨by kernel_rfl, rfl⟩
set_option maxRecDepth 100000 in
theorem high_5 (w : World) : Calls Tryz.prog 114 #[.int .u64 32] w fun en w' => en = .returned (.int .i64 (5)) ∧ w' = w := by
  go_enter Tryz.func114, Tryz.ntmps114
  go_wp2
  go_ret
  exact ⟨by kernel_rfl, rfl⟩
set_option maxRecDepth 100000 in
theorem high_6 (w : World) : Calls Tryz.prog 114 #[.int .u64 64] w fun en w' => en = .returned (.int .i64 (6)) ∧ w' = w := by
  go_enter Tryz.func114, Tryz.ntmps114
  go_wp2
  go_ret
  exact ⟨by kernel_rfl, rfl⟩
set_option maxRecDepth 100000 in
theorem high_7 (w : World) : Calls Tryz.prog 114 #[.int .u64 128] w fun en w' => en = .returned (.int .i64 (7)) ∧ w' = w := by
  go_enter Tryz.func114, Tryz.ntmps114
  go_wp2
  go_ret
  exact ⟨by kernel_rfl, rfl⟩
set_option maxRecDepth 100000 in
theorem high_8 (w : World) : Calls Tryz.prog 114 #[.int .u64 256] w fun en w' => en = .returned (.int .i64 (8)) ∧ w' = w := by
  go_enter Tryz.func114, Tryz.ntmps114
  go_wp2
  go_ret
  exact ⟨by kernel_rfl, rfl⟩
set_option maxRecDepth 100000 in
theorem high_9 (w : World) : Calls Tryz.prog 114 #[.int .u64 512] w fun en w' => en = .returned (.int .i64 (9)) ∧ w' = w := by
  go_enter Tryz.func114, Tryz.ntmps114
  go_wp2
  go_ret
  exact ⟨by kernel_rfl, rfl⟩
set_option maxRecDepth 100000 in
theorem high_10 (w : World) : Calls Tryz.prog 114 #[.int .u64 1024] w fun en w' => en = .returned (.int .i64 (10)) ∧ w' = w := by
  go_enter Tryz.func114, Tryz.ntmps114
  go_wp2
  go_ret
  exact ⟨by kernel_rfl, rfl⟩
set_option maxRecDepth 100000 in
theorem high_11 (w : World) : Calls Tryz.prog 114 #[.int .u64 2048] w fun en w' => en = .returned (.int .i64 (11)) ∧ w' = w := by
  go_enter Tryz.func114, Tryz.ntmps114
  go_wp2
  go_ret
  exact ⟨by kernel_rfl, rfl⟩
set_option maxRecDepth 100000 in
theorem high_12 (w : World) : Calls Tryz.prog 114 #[.int .u64 4096] w fun en w' => en = .returned (.int .i64 (12)) ∧ w' = w := by
  go_enter Tryz.func114, Tryz.ntmps114
  go_wp2
  go_ret
  exact ⟨by kernel_rfl, rfl⟩
set_option maxRecDepth 100000 in
theorem high_13 (w : World) : Calls Tryz.prog 114 #[.int .u64 8192] w fun en w' => en = .returned (.int .i64 (13)) ∧ w' = w := by
  go_enter Tryz.func114, Tryz.ntmps114
  go_wp2
  go_ret
  exact ⟨by kernel_rfl, rfl⟩
set_option maxRecDepth 100000 in
theorem high_14 (w : World) : Calls Tryz.prog 114 #[.int .u64 16384] w fun en w' => en = .returned (.int .i64 (14)) ∧ w' = w := by
  go_enter Tryz.func114, Tryz.ntmps114
  go_wp2
  go_ret
  exact ⟨by kernel_rfl, rfl⟩
set_option maxRecDepth 100000 in
theorem high_15 (w : World) : Calls Tryz.prog 114 #[.int .u64 32768] w fun en w' => en = .returned (.int .i64 (15)) ∧ w' = w := by
  go_enter Tryz.func114, Tryz.ntmps114
  go_wp2
  go_ret
  exact ⟨by kernel_rfl, rfl⟩
set_option maxRecDepth 100000 in
theorem high_16 (w : World) : Calls Tryz.prog 114 #[.int .u64 65536] w fun en w' => en = .returned (.int .i64 (16)) ∧ w' = w := by
  go_enter Tryz.func114, Tryz.ntmps114
  go_wp2
  go_ret
  exact ⟨by kernel_rfl, rfl⟩
set_option maxRecDepth 100000 in
theorem high_17 (w : World) : Calls Tryz.prog 114 #[.int .u64 131072] w fun en w' => en = .returned (.int .i64 (17)) ∧ w' = w := by
  go_enter Tryz.func114, Tryz.ntmps114
  go_wp2
  go_ret
  exact ⟨by kernel_rfl, rfl⟩
set_option maxRecDepth 100000 in
theorem high_18 (w : World) : Calls Tryz.prog 114 #[.int .u64 262144] w fun en w' => en = .returned (.int .i64 (18)) ∧ w' = w := by
  go_enter Tryz.func114, Tryz.ntmps114
  go_wp2
  go_ret
  exact ⟨by kernel_rfl, rfl⟩
set_option maxRecDepth 100000 in
theorem high_19 (w : World) : Calls Tryz.prog 114 #[.int .u64 524288] w fun en w' => en = .returned (.int .i64 (19)) ∧ w' = w := by
  go_enter Tryz.func114, Tryz.ntmps114
  go_wp2
  go_ret
  exact ⟨by kernel_rfl, rfl⟩
set_option maxRecDepth 100000 in
theorem high_20 (w : World) : Calls Tryz.prog 114 #[.int .u64 1048576] w fun en w' => en = .returned (.int .i64 (20)) ∧ w' = w := by
  go_enter Tryz.func114, Tryz.ntmps114
  go_wp2
  go_ret
  exact ⟨by kernel_rfl, rfl⟩
set_option maxRecDepth 100000 in
theorem high_21 (w : World) : Calls Tryz.prog 114 #[.int .u64 2097152] w fun en w' => en = .returned (.int .i64 (21)) ∧ w' = w := by
  go_enter Tryz.func114, Tryz.ntmps114
  go_wp2
  go_ret
  exact ⟨by kernel_rfl, rfl⟩
set_option maxRecDepth 100000 in
theorem high_22 (w : World) : Calls Tryz.prog 114 #[.int .u64 4194304] w fun en w' => en = .returned (.int .i64 (22)) ∧ w' = w := by
  go_enter Tryz.func114, Tryz.ntmps114
  go_wp2
  go_ret
  exact ⟨by kernel_rfl, rfl⟩
set_option maxRecDepth 100000 in
theorem high_23 (w : World) : Calls Tryz.prog 114 #[.int .u64 8388608] w fun en w' => en = .returned (.int .i64 (23)) ∧ w' = w := by
  go_enter Tryz.func114, Tryz.ntmps114
  go_wp2
  go_ret
  exact ⟨by kernel_rfl, rfl⟩
set_option maxRecDepth 100000 in
theorem high_24 (w : World) : Calls Tryz.prog 114 #[.int .u64 16777216] w fun en w' => en = .returned (.int .i64 (24)) ∧ w' = w := by
  go_enter Tryz.func114, Tryz.ntmps114
  go_wp2
  go_ret
  exact ⟨by kernel_rfl, rfl⟩
set_option maxRecDepth 100000 in
theorem high_25 (w : World) : Calls Tryz.prog 114 #[.int .u64 33554432] w fun en w' => en = .returned (.int .i64 (25)) ∧ w' = w := by
  go_enter Tryz.func114, Tryz.ntmps114
  go_wp2
  go_ret
  exact ⟨by kernel_rfl, rfl⟩
set_option maxRecDepth 100000 in
theorem high_26 (w : World) : Calls Tryz.prog 114 #[.int .u64 67108864] w fun en w' => en = .returned (.int .i64 (26)) ∧ w' = w := by
  go_enter Tryz.func114, Tryz.ntmps114
  go_wp2
  go_ret
  exact ⟨by kernel_rfl, rfl⟩
set_option maxRecDepth 100000 in
theorem high_27 (w : World) : Calls Tryz.prog 114 #[.int .u64 134217728] w fun en w' => en = .returned (.int .i64 (27)) ∧ w' = w := by
  go_enter Tryz.func114, Tryz.ntmps114
  go_wp2
  go_ret
  exact ⟨by kernel_rfl, rfl⟩
set_option maxRecDepth 100000 in
theorem high_28 (w : World) : Calls Tryz.prog 114 #[.int .u64 268435456] w fun en w' => en = .returned (.int .i64 (28)) ∧ w' = w := by
  go_enter Tryz.func114, Tryz.ntmps114
  go_wp2
  go_ret
  exact ⟨by kernel_rfl, rfl⟩
set_option maxRecDepth 100000 in
theorem high_29 (w : World) : Calls Tryz.prog 114 #[.int .u64 536870912] w fun en w' => en = .returned (.int .i64 (29)) ∧ w' = w := by
  go_enter Tryz.func114, Tryz.ntmps114
  go_wp2
  go_ret
  exact ⟨by kernel_rfl, rfl⟩
set_option maxRecDepth 100000 in
theorem high_30 (w : World) : Calls Tryz.prog 114 #[.int .u64 1073741824] w fun en w' => en = .returned (.int .i64 (30)) ∧ w' = w := by
  go_enter Tryz.func114, Tryz.ntmps114
  go_wp2
  go_ret
  exact ⟨by kernel_rfl, rfl⟩
set_option maxRecDepth 100000 in
theorem high_31 (w : World) : Calls Tryz.prog 114 #[.int .u64 2147483648] w fun en w' => en = .returned (.int .i64 (31)) ∧ w' = w := by
  go_enter Tryz.func114, Tryz.ntmps114
  go_wp2
  go_ret
  exact ⟨by kernel_rfl, rfl⟩
set_option maxRecDepth 100000 in
theorem high_32 (w : World) : Calls Tryz.prog 114 #[.int .u64 4294967296] w fun en w' => en = .returned (.int .i64 (32)) ∧ w' = w := by
  go_enter Tryz.func114, Tryz.ntmps114
  go_wp2
  go_ret
  exact ⟨by kernel_rfl, rfl⟩
set_option maxRecDepth 100000 in
theorem high_33 (w : World) : Calls Tryz.prog 114 #[.int .u64 8589934592] w fun en w' => en = .returned (.int .i64 (33)) ∧ w' = w := by
  go_enter Tryz.func114, Tryz.ntmps114
  go_wp2
  go_ret
  exact ⟨by kernel_rfl, rfl⟩
set_option maxRecDepth 100000 in
theorem high_34 (w : World) : Calls Tryz.prog 114 #[.int .u64 17179869184] w fun en w' => en = .returned (.int .i64 (34)) ∧ w' = w := by
  go_enter Tryz.func114, Tryz.ntmps114
  go_wp2
  go_ret
  exact ⟨by kernel_rfl, rfl⟩
set_option maxRecDepth 100000 in
theorem high_35 (w : World) : Calls Tryz.prog 114 #[.int .u64 34359738368] w fun en w' => en = .returned (.int .i64 (35)) ∧ w' = w := by
  go_enter Tryz.func114, Tryz.ntmps114
  go_wp2
  go_ret
  exact ⟨by kernel_rfl, rfl⟩
set_option maxRecDepth 100000 in
theorem high_36 (w : World) : Calls Tryz.prog 114 #[.int .u64 68719476736] w fun en w' => en = .returned (.int .i64 (36)) ∧ w' = w := by
  go_enter Tryz.func114, Tryz.ntmps114
  go_wp2
  go_ret
  exact ⟨by kernel_rfl, rfl⟩
set_option maxRecDepth 100000 in
theorem high_37 (w : World) : Calls Tryz.prog 114 #[.int .u64 137438953472] w fun en w' => en = .returned (.int .i64 (37)) ∧ w' = w := by
  go_enter Tryz.func114, Tryz.ntmps114
  go_wp2
  go_ret
  exact ⟨by kernel_rfl, rfl⟩
set_option maxRecDepth 100000 in
theorem high_38 (w : World) : Calls Tryz.prog 114 #[.int .u64 274877906944] w fun en w' => en = .returned (.int .i64 (38)) ∧ w' = w := by
  go_enter Tryz.func114, Tryz.ntmps114
  go_wp2
  go_ret
  exact ⟨by kernel_rfl, rfl⟩
set_option maxRecDepth 100000 in
theorem high_39 (w : World) : Calls Tryz.prog 114 #[.int .u64 549755813888] w fun en w' => en = .returned (.int .i64 (39)) ∧ w' = w := by
  go_enter Tryz.func114, Tryz.ntmps114
  go_wp2
  go_ret
  exact ⟨by kernel_rfl, rfl⟩
set_option maxRecDepth 100000 in
theorem high_40 (w : World) : Calls Tryz.prog 114 #[.int .u64 1099511627776] w fun en w' => en = .returned (.int .i64 (40)) ∧ w' = w := by
  go_enter Tryz.func114, Tryz.ntmps114
  go_wp2
  go_ret
  exact ⟨by kernel_rfl, rfl⟩
set_option maxRecDepth 100000 in
theorem high_41 (w : World) : Calls Tryz.prog 114 #[.int .u64 2199023255552] w fun en w' => en = .returned (.int .i64 (41)) ∧ w' = w := by
  go_enter Tryz.func114, Tryz.ntmps114
  go_wp2
  go_ret
  exact ⟨by kernel_rfl, rfl⟩
set_option maxRecDepth 100000 in
theorem high_42 (w : World) : Calls Tryz.prog 114 #[.int .u64 4398046511104] w fun en w' => en = .returned (.int .i64 (42)) ∧ w' = w := by
  go_enter Tryz.func114, Tryz.ntmps114
  go_wp2
  go_ret
  exact ⟨by kernel_rfl, rfl⟩
set_option maxRecDepth 100000 in
theorem high_43 (w : World) : Calls Tryz.prog 114 #[.int .u64 8796093022208] w fun en w' => en = .returned (.int .i64 (43)) ∧ w' = w := by
  go_enter Tryz.func114, Tryz.ntmps114
  go_wp2
  go_ret
  exact ⟨by kernel_rfl, rfl⟩
set_option maxRecDepth 100000 in
theorem high_44 (w : World) : Calls Tryz.prog 114 #[.int .u64 17592186044416] w fun en w' => en = .returned (.int .i64 (44)) ∧ w' = w := by
  go_enter Tryz.func114, Tryz.ntmps114
  go_wp2
  go_ret
  exact ⟨by kernel_rfl, rfl⟩
set_option maxRecDepth 100000 in
theorem high_45 (w : World) : Calls Tryz.prog 114 #[.int .u64 35184372088832] w fun en w' => en = .returned (.int .i64 (45)) ∧ w' = w := by
  go_enter Tryz.func114, Tryz.ntmps114
  go_wp2
  go_ret
  exact ⟨by kernel_rfl, rfl⟩
set_option maxRecDepth 100000 in
theorem high_46 (w : World) : Calls Tryz.prog 114 #[.int .u64 70368744177664] w fun en w' => en = .returned (.int .i64 (46)) ∧ w' = w := by
  go_enter Tryz.func114, Tryz.ntmps114
  go_wp2
  go_ret
  exact ⟨by kernel_rfl, rfl⟩
set_option maxRecDepth 100000 in
theorem high_47 (w : World) : Calls Tryz.prog 114 #[.int .u64 140737488355328] w fun en w' => en = .returned (.int .i64 (47)) ∧ w' = w := by
  go_enter Tryz.func114, Tryz.ntmps114
  go_wp2
  go_ret
  exact ⟨by kernel_rfl, rfl⟩
set_option maxRecDepth 100000 in
theorem high_48 (w : World) : Calls Tryz.prog 114 #[.int .u64 281474976710656] w fun en w' => en = .returned (.int .i64 (48)) ∧ w' = w := by
  go_enter Tryz.func114, Tryz.ntmps114
  go_wp2
  go_ret
  exact ⟨by kernel_rfl, rfl⟩
set_option maxRecDepth 100000 in
theorem high_49 (w : World) : Calls Tryz.prog 114 #[.int .u64 562949953421312] w fun en w' => en = .returned (.int .i64 (49)) ∧ w' = w := by
  go_enter Tryz.func114, Tryz.ntmps114
  go_wp2
  go_ret
  exact ⟨by kernel_rfl, rfl⟩
set_option maxRecDepth 100000 in
theorem high_50 (w : World) : Calls Tryz.prog 114 #[.int .u64 1125899906842624] w fun en w' => en = .returned (.int .i64 (50)) ∧ w' = w := by
  go_enter Tryz.func114, Tryz.ntmps114
  go_wp2
  go_ret
  exact ⟨by kernel_rfl, rfl⟩
set_option maxRecDepth 100000 in
theorem high_51 (w : World) : Calls Tryz.prog 114 #[.int .u64 2251799813685248] w fun en w' => en = .returned (.int .i64 (51)) ∧ w' = w := by
  go_enter Tryz.func114, Tryz.ntmps114
  go_wp2
  go_ret
  exact ⟨by kernel_rfl, rfl⟩
set_option maxRecDepth 100000 in
theorem high_52 (w : World) : Calls Tryz.prog 114 #[.int .u64 4503599627370496] w fun en w' => en = .returned (.int .i64 (52)) ∧ w' = w := by
  go_enter Tryz.func114, Tryz.ntmps114
  go_wp2
  go_ret
  exact ⟨by kernel_rfl, rfl⟩
set_option maxRecDepth 100000 in
theorem high_53 (w : World) : Calls Tryz.prog 114 #[.int .u64 9007199254740992] w fun en w' => en = .returned (.int .i64 (53)) ∧ w' = w := by
  go_enter Tryz.func114, Tryz.ntmps114
  go_wp2
  go_ret
  exact ⟨by kernel_rfl, rfl⟩
set_option maxRecDepth 100000 in
theorem high_54 (w : World) : Calls Tryz.prog 114 #[.int .u64 18014398509481984] w fun en w' => en = .returned (.int .i64 (54)) ∧ w' = w := by
  go_enter Tryz.func114, Tryz.ntmps114
  go_wp2
  go_ret
  exact ⟨by kernel_rfl, rfl⟩
set_option maxRecDepth 100000 in
theorem high_55 (w : World) : Calls Tryz.prog 114 #[.int .u64 36028797018963968] w fun en w' => en = .returned (.int .i64 (55)) ∧ w' = w := by
  go_enter Tryz.func114, Tryz.ntmps114
  go_wp2
  go_ret
  exact ⟨by kernel_rfl, rfl⟩
set_option maxRecDepth 100000 in
theorem high_56 (w : World) : Calls Tryz.prog 114 #[.int .u64 72057594037927936] w fun en w' => en = .returned (.int .i64 (56)) ∧ w' = w := by
  go_enter Tryz.func114, Tryz.ntmps114
  go_wp2
  go_ret
  exact ⟨by kernel_rfl, rfl⟩
set_option maxRecDepth 100000 in
theorem high_57 (w : World) : Calls Tryz.prog 114 #[.int .u64 144115188075855872] w fun en w' => en = .returned (.int .i64 (57)) ∧ w' = w := by
  go_enter Tryz.func114, Tryz.ntmps114
  go_wp2
  go_ret
  exact ⟨by kernel_rfl, rfl⟩
set_option maxRecDepth 100000 in
theorem high_58 (w : World) : Calls Tryz.prog 114 #[.int .u64 288230376151711744] w fun en w' => en = .returned (.int .i64 (58)) ∧ w' = w := by
  go_enter Tryz.func114, Tryz.ntmps114
  go_wp2
  go_ret
  exact ⟨by kernel_rfl, rfl⟩
set_option maxRecDepth 100000 in
theorem high_59 (w : World) : Calls Tryz.prog 114 #[.int .u64 576460752303423488] w fun en w' => en = .returned (.int .i64 (59)) ∧ w' = w := by
  go_enter Tryz.func114, Tryz.ntmps114
  go_wp2
  go_ret
  exact ⟨by kernel_rfl, rfl⟩
set_option maxRecDepth 100000 in
theorem high_60 (w : World) : Calls Tryz.prog 114 #[.int .u64 1152921504606846976] w fun en w' => en = .returned (.int .i64 (60)) ∧ w' = w := by
  go_enter Tryz.func114, Tryz.ntmps114
  go_wp2
  go_ret
  exact ⟨by kernel_rfl, rfl⟩
set_option maxRecDepth 100000 in
theorem high_61 (w : World) : Calls Tryz.prog 114 #[.int .u64 2305843009213693952] w fun en w' => en = .returned (.int .i64 (61)) ∧ w' = w := by
  go_enter Tryz.func114, Tryz.ntmps114
  go_wp2
  go_ret
  exact ⟨by kernel_rfl, rfl⟩
set_option maxRecDepth 100000 in
theorem high_62 (w : World) : Calls Tryz.prog 114 #[.int .u64 4611686018427387904] w fun en w' => en = .returned (.int .i64 (62)) ∧ w' = w := by
  go_enter Tryz.func114, Tryz.ntmps114
  go_wp2
  go_ret
  exact ⟨by kernel_rfl, rfl⟩
set_option maxRecDepth 100000 in
theorem high_63 (w : World) : Calls Tryz.prog 114 #[.int .u64 9223372036854775808] w fun en w' => en = .returned (.int .i64 (63)) ∧ w' = w := by
  go_enter Tryz.func114, Tryz.ntmps114
  go_wp2
  go_ret
  exact ⟨by kernel_rfl, rfl⟩
theorem high_pow : ∀ (a : Nat) (w : World), a < 64 → Calls Tryz.prog 114 #[.int .u64 (2 ^ a)] w fun en w' => en = .returned (.int .i64 (a : Int)) ∧ w' = w
  | 0, w, _ => high_0 w
  | 1, w, _ => high_1 w
  | 2, w, _ => high_2 w
  | 3, w, _ => high_3 w
  | 4, w, _ => high_4 w
  | 5, w, _ => high_5 w
  | 6, w, _ => high_6 w
  | 7, w, _ => high_7 w
  | 8, w, _ => high_8 w
  | 9, w, _ => high_9 w
  | 10, w, _ => high_10 w
  | 11, w, _ => high_11 w
  | 12, w, _ => high_12 w
  | 13, w, _ => high_13 w
  | 14, w, _ => high_14 w
  | 15, w, _ => high_15 w
  | 16, w, _ => high_16 w
  | 17, w, _ => high_17 w
  | 18, w, _ => high_18 w
  | 19, w, _ => high_19 w
  | 20, w, _ => high_20 w
  | 21, w, _ => high_21 w
  | 22, w, _ => high_22 w
  | 23, w, _ => high_23 w
  | 24, w, _ => high_24 w
  | 25, w, _ => high_25 w
  | 26, w, _ => high_26 w
  | 27, w, _ => high_27 w
  | 28, w, _ => high_28 w
  | 29, w, _ => high_29 w
  | 30, w, _ => high_30 w
  | 31, w, _ => high_31 w
  | 32, w, _ => high_32 w
  | 33, w, _ => high_33 w
  | 34, w, _ => high_34 w
  | 35, w, _ => high_35 w
  | 36, w, _ => high_36 w
  | 37, w, _ => high_37 w
  | 38, w, _ => high_38 w
  | 39, w, _ => high_39 w
  | 40, w, _ => high_40 w
  | 41, w, _ => high_41 w
  | 42, w, _ => high_42 w
  | 43, w, _ => high_43 w
  | 44, w, _ => high_44 w
  | 45, w, _ => high_45 w
  | 46, w, _ => high_46 w
  | 47, w, _ => high_47 w
  | 48, w, _ => high_48 w
  | 49, w, _ => high_49 w
  | 50, w, _ => high_50 w
  | 51, w, _ => high_51 w
  | 52, w, _ => high_52 w
  | 53, w, _ => high_53 w
  | 54, w, _ => high_54 w
  | 55, w, _ => high_55 w
  | 56, w, _ => high_56 w
  | 57, w, _ => high_57 w
  | 58, w, _ => high_58 w
  | 59, w, _ => high_59 w
  | 60, w, _ => high_60 w
  | 61, w, _ => high_61 w
  | 62, w, _ => high_62 w
  | 63, w, _ => high_63 w
  | a + 64, w, h => absurd h (by omega)
open Go.RowKit Go.Proofs
set_option linter.all false
set_option maxRecDepth 20000
theorem MemR.of_step {e : Env} {h : Hp} {w w' : World} {r q : Pth} {n k m D : Nat} {d : Wt} (G : MemR e h w r q n k m D d) (S : Step e h w e h w') : MemR e h w' r q n k m D d :=
  ⟨S.rel, G.hr, G.hq, G.ar, G.aq, G.nm, G.nk, G.kG⟩
theorem highest_zero {e : Env} {h : Hp} {w : World} {r q : Pth} {n k m D : Nat} {d : Wt} (G : MemR e h w r q n k m D d) (h4 : vl e (wg d 4) = 0) (hn : 512 ≤ n) :
    Calls Tryz.prog 52 #[.pointer (some (adr e r 0))] w fun en w' => en = .returned (.int .i64 0) ∧ Step e h w e h w' := by
  go_enter Tryz.func52, Tryz.ntmps52
  go_wp2_with (first | (go_at_call 33; go_loud (refine (rd_rel G (i := 4) (by omega)).mono ?_; rintro en w' ⟨rfl, S1, G1⟩; rw [h4])) | (go_at_call 114; go_loud (refine (high_z _).mono ?_; rintro en w' ⟨rfl, rfl⟩)))
  go_ret
  exact ⟨rfl, S1⟩
theorem valid_any (s : Nat) (hs : s < 256) (w : World) : Calls Tryz.prog 198 #[.int .i64 (s : Int)] w fun en w' => en = .returned (.bool true) ∧ w' = w := by
  have h1 : ((s : Int) < 256) := by omega
  have h2 : (0 : Int) ≤ s := by omega
  go_enter Tryz.func198, Tryz.ntmps198
  go_wp2
  go_ret
  refine ⟨?_, rfl⟩
  simp [h1, h2]
theorem front_any {e : Env} {h : Hp} {w : World} {r q : Pth} {n k m D : Nat} {d : Wt} (G : MemR e h w r q n k m D d) {s : Nat} (hs : s < 256) {x y : Int} (he : ∀ w, MemR e h w r q n k m D d → Calls Tryz.prog 116 #[.pointer (some (adr e r 0)), .int .i64 (s : Int)] w fun en w' => en = .returned (.tuple #[.int .i64 x, .int .i64 y]) ∧ Step e h w e h w') :
    Calls Tryz.prog 115 #[.pointer (some (adr e r 0)), .int .i64 (s : Int)] w fun en w' => en = .returned (.int .i64 x) ∧ Step e h w e h w' := by
  go_enter Tryz.func115, Tryz.ntmps115
  go_wp2_with (first
    | (go_at_call 198; go_loud (refine (valid_any s hs _).mono ?_; rintro en w' ⟨rfl, rfl⟩))
    | (go_at_call 116; go_loud (refine (he _ G).mono ?_; rintro en w' ⟨rfl, S3⟩)))
  go_ret
  exact ⟨rfl, S3⟩
theorem highest_pos {e : Env} {h : Hp} {w : World} {r q : Pth} {n k m D : Nat} {d : Wt} (G : MemR e h w r q n k m D d) {g b : Nat} (hg : g < 4) (hb : b < 64) (h4 : vl e (wg d 4) = 2 ^ g) (h8 : vl e (wg d (8 + g)) = 2 ^ b) (hn : 512 ≤ n) {x y : Int} (he : ∀ w, MemR e h w r q n k m D d → Calls Tryz.prog 116 #[.pointer (some (adr e r 0)), .int .i64 ((64 * g + b : Nat) : Int)] w fun en w' => en = .returned (.tuple #[.int .i64 x, .int .i64 y]) ∧ Step e h w e h w') (ha : bits .and .u64 (2 ^ g) 15 = 2 ^ g) (hp : (2 : Int) ^ b ≠ 0) :
    Calls Tryz.prog 52 #[.pointer (some (adr e r 0))] w fun en w' => en = .returned (.int .i64 x) ∧ Step e h w e h w' := by
  go_enter Tryz.func52, Tryz.ntmps52
  have hg0 : ¬ ((g : Int) < 0) := by omega
  have hc1 : (0 : Int) ≤ ((64 * g + b : Nat) : Int) := by omega
  have hc2 : ((64 * g + b : Nat) : Int) < 256 := by omega
  go_wp2_with (first
    | (go_at_call 115; go_loud (rw [show (g : Int) * 64 + (b : Int) = ((64 * g + b : Nat) : Int) by omega]; refine (front_any G2 (s := 64 * g + b) (by omega) he).mono ?_; rintro en w' ⟨rfl, S3⟩))
    | (go_at_call 33; have := G1.H; go_loud (rw [show (8 + (g : Int)) = ((8 + g : Nat) : Int) by omega]; refine (rd_rel G1 (i := 8 + g) (by omega)).mono ?_; rintro en w' ⟨rfl, S2, G2⟩; (try rw [h8])))
    | (go_at_call 33; go_loud (refine (rd_rel G (i := 4) (by omega)).mono ?_; rintro en w' ⟨rfl, S1, G1⟩; (try rw [h4])))
    | (go_at_call 114; have := G2.H; go_loud (refine (high_pow b _ hb).mono ?_; rintro en w' ⟨rfl, rfl⟩))
    | (go_at_call 114; go_loud (refine (high_pow g _ (by omega)).mono ?_; rintro en w' ⟨rfl, rfl⟩)))
  go_ret
  exact ⟨rfl, (S1.trans S2).trans S3⟩
open Go.RowKit Go.Proofs
set_option linter.all false
theorem and15 {g : Nat} (hg : g < 4) : bits .and .u64 (2 ^ g) 15 = 2 ^ g := by
  match g, hg with
  | 0, _ => decide
  | 1, _ => decide
  | 2, _ => decide
  | 3, _ => decide
theorem highest_q {e : Env} {h : Hp} {w : World} {r q : Pth} {n k m D : Nat} {d : Wt} (G : MemR e h w r q n k m D d) {Q M : Nat} {rr : List (Nat × Int)} (hQ : QD d Q rr M) (hn : 512 ≤ n) :
    Calls Tryz.prog 52 #[.pointer (some (adr e r 0))] w fun en w' => en = .returned (.int .i64 ((Q % 65536 : Nat) : Int)) ∧ Step e h w e h w' := by
  have V4 := hQ.vals (e := e) (i := 4) rfl
  rw [if_pos rfl] at V4
  by_cases c : Q = 0
  · rw [if_pos c] at V4
    rw [c]
    exact highest_zero G V4 hn
  · have hs := fv16 e
    have V8 := hQ.vals (e := e) (i := 8 + fval e.ρ 16 / 64) (by simp only [spc, Bool.or_eq_true, Bool.and_eq_true, decide_eq_true_eq, beq_iff_eq]; omega)
    rw [if_neg c, if_neg (show ¬ (8 + fval e.ρ 16 / 64 = 4) by omega), if_pos (show 8 + fval e.ρ 16 / 64 < 12 by omega), if_pos rfl] at V8
    rw [if_neg c] at V4
    have hp : (2 : Int) ^ (fval e.ρ 16 % 64) ≠ 0 := by
      have : (0 : Int) < 2 ^ (fval e.ρ 16 % 64) := Int.pow_pos (by decide)
      omega
    refine highest_pos G (g := fval e.ρ 16 / 64) (b := fval e.ρ 16 % 64) (by omega) (by omega) V4 V8 hn (y := ((Q / 65536 % 65536 : Nat) : Int)) (fun w G => ?_) (and15 (by omega)) hp
    rw [show 64 * (fval e.ρ 16 / 64) + fval e.ρ 16 % 64 = fval e.ρ 16 by omega]
    exact ends_q G hQ hn
open Go.RowKit Go.Proofs
set_option linter.all false
noncomputable def memQ (h : Hp) (x : V) (c : Pth → Nat → Nat → Wt → Ans) : Ans :=
  asP x fun r o => onB (Nat.beq o 0) (cuG (h.gb r) fun s => slG s fun q p n k => onB (Nat.beq p 0) (onB (Nat.ble n k) (onB (Nat.blt k 4294967296) (onB (Nat.ble 512 n) (wG (h.gb q) fun kd m D d => onB (kEq kd .u64) (onB (Nat.ble n m) (c q m D d) none) none) none) none) none) none) none
structure MemQ (h : Hp) (x : V) (r q : Pth) (m D : Nat) (d : Wt) (n k : Nat) : Prop where
  hx : x = .s (.p r 0)
  hr : h.at r = .cu (.sl q 0 n k)
  hq : h.at q = .w .u64 m D d
  nk : n ≤ k
  kG : k < 4294967296
  n5 : 512 ≤ n
  nm : n ≤ m
theorem memQ_some {h : Hp} {x : V} {c : Pth → Nat → Nat → Wt → Ans} {z : RES} (H : memQ h x c = some z) : ∃ r q m D d n k, MemQ h x r q m D d n k ∧ c q m D d = some z := by
  obtain ⟨r, o, h1, H1⟩ := asP_some H
  obtain ⟨h2, H2⟩ := onB_t H1
  obtain ⟨s, h3, H3⟩ := cuG_some H2
  obtain ⟨q, p, n, k, h4, H4⟩ := slG_some H3
  obtain ⟨h0, H4⟩ := onB_t H4
  obtain ⟨h5, H5⟩ := onB_t H4
  obtain ⟨h6, H6⟩ := onB_t H5
  obtain ⟨h7, H7⟩ := onB_t H6
  obtain ⟨kd, m, D, d, h8, H8⟩ := wG_some H7
  obtain ⟨h9, H9⟩ := onB_t H8
  obtain ⟨h10, H10⟩ := onB_t H9
  have := nat_eq h2
  subst this
  have := nat_eq h0
  subst this
  have := kEq_t h9
  subst this
  subst h4
  exact ⟨r, q, m, D, d, n, k, ⟨h1, by rw [← Hp.gb_eq]; exact h3, by rw [← Hp.gb_eq]; exact h8, nat_le h5, nat_lt h6, nat_le h7, nat_le h10⟩, H10⟩
theorem MemQ.memR {e : Env} {h : Hp} {w : World} {x : V} {r q : Pth} {m D : Nat} {d : Wt} {n k : Nat} (G : MemQ h x r q m D d n k) (H : Rel e h w) (hx : x.rf (Pth.ok h.n.n) = true) : MemR e h w r q n k m D d := by
  rw [G.hx] at hx
  have hr := Pth.ok_iff.1 hx
  have := H.val r hr
  rw [G.hr] at this
  exact ⟨H, hr, Pth.ok_iff.1 this, G.hr, G.hq, G.nm, G.nk, G.kG⟩
noncomputable def nHighest : NF := fun args h => List.casesOn args none fun x args => List.casesOn args (memQ h x fun q m D d => qG d fun Q rr M => some (.s (.i .i64 (.ofNat (Nat.mod Q 65536))), h)) fun _ _ => none
theorem nHighest_some : ∀ {args : List V} {h : Hp} {z : RES}, nHighest args h = some z → ∃ x r q m D d n k Q rr M, args = [x] ∧ MemQ h x r q m D d n k ∧ QD d Q rr M ∧ z = (.s (.i .i64 (.ofNat (Q % 65536))), h)
  | [x], h, z, hz => by
    obtain ⟨r, q, m, D, d, n, k, G, h1⟩ := memQ_some (show memQ h x _ = some z from hz)
    obtain ⟨Q, rr, M, h2, h3⟩ := qG_out h1
    exact ⟨x, r, q, m, D, d, n, k, Q, rr, M, rfl, G, h2, (Option.some.inj h3).symm⟩
  | [], _, _, h => by cases h
  | _ :: _ :: _, _, _, h => by cases h
open Go.RowKit Go.Proofs
set_option linter.all false
section
variable {κ : KP}
theorem fn52 : FnOk Tryz.prog 52 := ⟨Tryz.f52, Tryz.func52, rfl, by kernel_rfl⟩
theorem fn116 : FnOk Tryz.prog 116 := ⟨Tryz.f116, Tryz.func116, rfl, by kernel_rfl⟩
theorem fn120 : FnOk Tryz.prog 120 := ⟨Tryz.f120, Tryz.func120, rfl, by kernel_rfl⟩
theorem iss1 {e : Env} {a : V} : ∀ {xs : List Value}, Iss e [a] xs → ∃ x, xs = [x] ∧ Isu e a x
  | [x], .cons h1 .nil => ⟨x, rfl, h1⟩
theorem nHighest_ok {Y : Lay} : NfOk Y Tryz.prog κ 52 nHighest := fun args h z hz e w xs hκ hR hG hf hx => by
  obtain ⟨x, r, q, m, D, d, n, k, Q, rr, M, ha, G, hQ, rfl⟩ := nHighest_some hz
  subst ha
  simp only [List.all_cons, List.all_nil, Bool.and_eq_true] at hf
  have GR := G.memR hR hf.1
  obtain ⟨x', rfl, hx1⟩ := iss1 hx
  have ex := isu_eq hx1 (by rw [G.hx]; simp) (by rw [G.hx]; rfl)
  rw [G.hx] at ex
  subst ex
  refine ⟨fn52, ?_⟩
  refine (highest_q GR hQ G.n5).mono ?_
  rintro en w' ⟨rfl, S⟩
  refine ⟨_, rfl, e, S, rfl, .inr (.inl (congrArg (Value.int .i64) (vl_nat (by omega)).symm)), rfl⟩
end
open Go.RowKit Go.Proofs
set_option linter.all false
theorem vl_c16 (e : Env) : vl e (.ofNat c16) = (fval e.ρ 16 : Int) := by
  have h : vl e (.ofNat (mkS 16 0 0)) = _ := vl_mk (e := e) (j := 16) (q := 0) (c := 0) (by omega) (by omega) (by kernel_rfl)
  have h2 : mkS 16 0 0 = c16 := by kernel_rfl
  rw [h2] at h
  rw [h]
  simp
noncomputable def nEnds : NF := fun args h => List.casesOn args none fun x args => List.casesOn args none fun y args => List.casesOn args (asI y fun kd a => Int.casesOn a
    (fun a => onB (kEq kd .i64) (onB (Nat.beq a c16) (memQ h x fun q m D d => qG d fun Q rr M => some (.tup [.s (.i .i64 (.ofNat (Nat.mod Q 65536))), .s (.i .i64 (.ofNat (Nat.mod (Nat.div Q 65536) 65536)))], h)) none) none) fun _ => none) fun _ _ => none
theorem nEnds_some : ∀ {args : List V} {h : Hp} {z : RES}, nEnds args h = some z → ∃ x r q m D d n k Q rr M, args = [x, .s (.i .i64 (.ofNat c16))] ∧ MemQ h x r q m D d n k ∧ QD d Q rr M ∧ z = (.tup [.s (.i .i64 (.ofNat (Q % 65536))), .s (.i .i64 (.ofNat (Q / 65536 % 65536)))], h)
  | [x, y], h, z, hz => by
    obtain ⟨kd, a, hy, h1⟩ := asI_some (show asI y _ = some z from hz)
    cases a with
    | negSucc _ => cases h1
    | ofNat a =>
      obtain ⟨h2, h3⟩ := onB_t (show onB (kEq kd .i64) _ none = some z from h1)
      obtain ⟨h4, h5⟩ := onB_t h3
      obtain ⟨r, q, m, D, d, n, k, G, h6⟩ := memQ_some h5
      obtain ⟨Q, rr, M, h7, h8⟩ := qG_out h6
      rw [hy, kEq_t h2, nat_eq h4]
      exact ⟨x, r, q, m, D, d, n, k, Q, rr, M, rfl, G, h7, (Option.some.inj h8).symm⟩
  | [], _, _, h => by cases h
  | [_], _, _, h => by cases h
  | _ :: _ :: _ :: _, _, _, h => by cases h
section
variable {κ : KP}
theorem nEnds_ok {Y : Lay} : NfOk Y Tryz.prog κ 116 nEnds := fun args h z hz e w xs hκ hR hG hf hx => by
  obtain ⟨x, r, q, m, D, d, n, k, Q, rr, M, ha, G, hQ, rfl⟩ := nEnds_some hz
  subst ha
  simp only [List.all_cons, List.all_nil, Bool.and_eq_true] at hf
  have GR := G.memR hR hf.1
  obtain ⟨x', y', rfl, hx1, hx2⟩ := iss2 hx
  have ex := isu_eq hx1 (by rw [G.hx]; simp) (by rw [G.hx]; rfl)
  have ey := isu_eq hx2 (by simp) (by kernel_rfl)
  have ey : y' = .int .i64 (fval e.ρ 16 : Int) := by rw [ey]; exact congrArg (Value.int .i64) (vl_c16 e)
  rw [G.hx] at ex
  subst ex ey
  refine ⟨fn116, ?_⟩
  refine (ends_q GR hQ G.n5).mono ?_
  rintro en w' ⟨rfl, U⟩
  refine ⟨_, rfl, e, U, rfl, .inr (.inl ?_), ?_⟩
  · rw [← vl_nat (e := e) (a := Q % 65536) (by omega), ← vl_nat (e := e) (a := Q / 65536 % 65536) (by omega)]
    rfl
  · show (V.tup [.s (.i .i64 (.ofNat (Q % 65536))), .s (.i .i64 (.ofNat (Q / 65536 % 65536)))]).rf _ = true
    simp only [V.rf, List.all_cons, List.all_nil, C.rf, S.rf, kn_word (n := Q % 65536) (by omega), kn_word (n := Q / 65536 % 65536) (by omega), Bool.true_and, Bool.and_true]
end
open Go.RowKit Go.Proofs
set_option linter.all false
noncomputable def nSetEnds : NF := fun args h => List.casesOn args none fun x args => List.casesOn args none fun y args => List.casesOn args none fun u args => List.casesOn args none fun v args => List.casesOn args
    (asI y fun kd a => Int.casesOn a (fun a => onB (kEq kd .i64) (onB (Nat.beq a c16)
      (asI u fun ku b => Int.casesOn b (fun b => onB (kEq ku .i64) (onB (Nat.blt b 65536)
        (asI v fun kv c => Int.casesOn c (fun c => onB (kEq kv .i64) (onB (Nat.blt c 65536) (onB (or (Nat.blt 0 b) (Nat.beq c 0))
          (memQ h x fun q m D d => qG d fun Q rr M => h.setK q (.w .u64 m D (qS (Nat.lor (Nat.mul c 65536) b) rr M)) fun h => some (.tup [], h)) none) none) none) fun _ => none) none) none) fun _ => none) none) none) fun _ => none) fun _ _ => none
theorem nSetEnds_some : ∀ {args : List V} {h : Hp} {z : RES}, nSetEnds args h = some z → ∃ x b c r q m D d n k Q rr M, args = [x, .s (.i .i64 (.ofNat c16)), .s (.i .i64 (.ofNat b)), .s (.i .i64 (.ofNat c))] ∧ b < 65536 ∧ c < 65536 ∧ (b = 0 → c = 0) ∧ MemQ h x r q m D d n k ∧ QD d Q rr M ∧ z = (.tup [], h.set q (.w .u64 m D (qS (Nat.lor (c * 65536) b) rr M)))
  | [x, y, u, v], h, z, hz => by
    obtain ⟨kd, a, hy, h1⟩ := asI_some (show asI y _ = some z from hz)
    cases a with
    | negSucc _ => cases h1
    | ofNat a =>
      obtain ⟨h2, h3⟩ := onB_t (show onB (kEq kd .i64) _ none = some z from h1)
      obtain ⟨h4, h5⟩ := onB_t h3
      obtain ⟨ku, b, hu, g1⟩ := asI_some h5
      cases b with
      | negSucc _ => cases g1
      | ofNat b =>
        obtain ⟨g2, g3⟩ := onB_t (show onB (kEq ku .i64) _ none = some z from g1)
        obtain ⟨g4, g5⟩ := onB_t g3
        obtain ⟨kv, c, hv, f1⟩ := asI_some g5
        cases c with
        | negSucc _ => cases f1
        | ofNat c =>
          obtain ⟨f2, f3⟩ := onB_t (show onB (kEq kv .i64) _ none = some z from f1)
          obtain ⟨f4, f5⟩ := onB_t f3
          obtain ⟨f6, f7⟩ := onB_t f5
          obtain ⟨r, q, m, D, d, n, k, G, h6⟩ := memQ_some f7
          obtain ⟨Q, rr, M, h7, h8⟩ := qG_out h6
          rw [Hp.setK_eq] at h8
          rw [hy, hu, hv, kEq_t h2, kEq_t g2, kEq_t f2, nat_eq h4]
          refine ⟨x, b, c, r, q, m, D, d, n, k, Q, rr, M, rfl, nat_lt g4, nat_lt f4, fun hb => ?_, G, h7, (Option.some.inj h8).symm⟩
          subst hb
          exact nat_eq (show Nat.beq c 0 = true from f6)
  | [], _, _, h => by cases h
  | [_], _, _, h => by cases h
  | [_, _], _, _, h => by cases h
  | [_, _, _], _, _, h => by cases h
  | _ :: _ :: _ :: _ :: _ :: _, _, _, h => by cases h
open Go.RowKit Go.Proofs
set_option linter.all false
theorem iss4 {e : Env} {a b c d : V} : ∀ {xs : List Value}, Iss e [a, b, c, d] xs → ∃ x y z u, xs = [x, y, z, u] ∧ Isu e a x ∧ Isu e b y ∧ Isu e c z ∧ Isu e d u
  | [x, y, z, u], .cons h1 (.cons h2 (.cons h3 (.cons h4 .nil))) => ⟨x, y, z, u, rfl, h1, h2, h3, h4⟩
section
variable {κ : KP}
theorem nSetEnds_ok {Y : Lay} : NfOk Y Tryz.prog κ 120 nSetEnds := fun args h z hz e w xs hκ hR hG hf hx => by
  obtain ⟨x, b, c, r, q, m, D, d, n, k, Q, rr, M, ha, hb, hc, h0, G, hQ, rfl⟩ := nSetEnds_some hz
  subst ha
  simp only [List.all_cons, List.all_nil, Bool.and_eq_true] at hf
  have GR := G.memR hR hf.1
  obtain ⟨x', y', u', v', rfl, hx1, hx2, hx3, hx4⟩ := iss4 hx
  have ex := isu_eq hx1 (by rw [G.hx]; simp) (by rw [G.hx]; rfl)
  have ey := isu_eq hx2 (by simp) (by kernel_rfl)
  have eu := isu_eq hx3 (by simp) (kn_word (by omega))
  have ev := isu_eq hx4 (by simp) (kn_word (by omega))
  have ey : y' = .int .i64 (fval e.ρ 16 : Int) := by rw [ey]; exact congrArg (Value.int .i64) (vl_c16 e)
  have eu : u' = .int .i64 (b : Int) := by rw [eu]; exact congrArg (Value.int .i64) (vl_nat (by omega))
  have ev : v' = .int .i64 (c : Int) := by rw [ev]; exact congrArg (Value.int .i64) (vl_nat (by omega))
  rw [G.hx] at ex
  subst ex ey eu ev
  refine ⟨fn120, ?_⟩
  refine (setEnds_q GR hQ G.n5 hb hc h0).mono ?_
  rintro en w' ⟨rfl, U⟩
  exact ⟨_, rfl, e, U, rfl, .inr (.inl rfl), rfl⟩
end
open Go.RowKit Go.Proofs
set_option linter.all false
noncomputable def wlkF (i : Nat) (o : List (Nat × Int)) : Option Int := List.rec none (fun x _ ih => Prod.rec (fun j y => Bool.rec ih (some y) (Nat.beq i j)) x) o
theorem wlkF_eq (i : Nat) : ∀ o, wlkF i o = wlk o i
  | [] => rfl
  | (j, y) :: o => by
    show (Bool.rec (wlkF i o) (some y) (Nat.beq i j) : Option Int) = _
    simp only [wlk]
    by_cases h : i = j
    · subst h; rw [if_pos rfl, Nat.beq_refl i]
    · rw [if_neg h, ← wlkF_eq i o]
      cases c : Nat.beq i j with
      | false => rfl
      | true => exact absurd (Nat.eq_of_beq_eq_true c) h
theorem wrm_none {i : Nat} : ∀ {o : List (Nat × Int)}, wlk o i = none → wrm o i = o
  | [], _ => rfl
  | (j, y) :: o, h => by
    simp only [wlk] at h
    simp only [wrm]
    by_cases c : i = j
    · rw [if_pos c] at h; cases h
    · rw [if_neg c] at h ⊢; rw [wrm_none h]
noncomputable def wgQ (t : Wt) (i : Nat) : Int := Wt.rec (fun m o => Option.rec (.ofNat (Nat.mod (Nat.shiftRight m (Nat.mul 64 i)) 18446744073709551616)) (fun x => x) (wlkF i o)) t
theorem wgQ_eq (t : Wt) (i : Nat) : wgQ t i = wg t i := by
  obtain ⟨m, o⟩ := t
  show (Option.rec _ (fun x => x) (wlkF i o) : Int) = _
  rw [wlkF_eq]
  simp only [wg]
  cases wlk o i <;> rfl
noncomputable def wsQ {β : Type} (t : Wt) (i : Nat) (x : Int) (k : Wt → Option β) : Option β := Wt.casesOn t fun m o => Int.casesOn x
  (fun n => Bool.casesOn (Nat.blt n 18446744073709551616) (k (.mk (wput m i 0) (wins o i (.ofNat n)))) (Option.rec (k (.mk (Nat.xor m (Nat.shiftLeft (Nat.xor n (Nat.mod (Nat.shiftRight m (Nat.mul 64 i)) 18446744073709551616)) (Nat.mul 64 i))) o)) (fun _ => k (.mk (wput m i n) (wrm o i))) (wlkF i o)))
  fun n => k (.mk (wput m i 0) (wins o i (.negSucc n)))
theorem wsQ_eq {β : Type} (t : Wt) (i : Nat) (x : Int) (k : Wt → Option β) : wsQ t i x k = k (wst t i x) := by
  obtain ⟨m, o⟩ := t
  cases x with
  | negSucc n => rfl
  | ofNat n =>
    simp only [wst]
    show (Bool.rec _ _ (Nat.blt n 18446744073709551616) : Option β) = _
    cases c : Nat.blt n 18446744073709551616 with
    | false => rw [if_neg (by intro h; rw [← Nat.blt_eq] at h; rw [c] at h; cases h)]
    | true =>
      rw [if_pos (by simpa [Nat.blt_eq] using c)]
      show (Option.rec _ _ (wlkF i o) : Option β) = _
      rw [wlkF_eq]
      cases h : wlk o i with
      | some _ => rfl
      | none => rw [wrm_none h]; rfl
noncomputable def nReadQ : NF := fun args h => List.casesOn args none fun x args => List.casesOn args none fun y args => List.casesOn args (asI y fun kd a => Int.casesOn a
    (fun a => onB (kEq kd .i64) (memG h x a fun _ _ i _ _ d => fI (wgQ d i) fun n => some (.tup [.s (.i .u64 n), .s (.i .i64 0)], h)) none) fun _ => none) fun _ _ => none
noncomputable def nWriteQ : NF := fun args h => List.casesOn args none fun x args => List.casesOn args none fun y args => List.casesOn args none fun z args => List.casesOn args (asI y fun kd a => Int.casesOn a
    (fun a => onB (kEq kd .i64) (asI z fun kz n => onB (kEq kz .u64) (onB (kn n) (memG h x a fun _ q i m D d => wsQ d i n fun d => h.setK q (.w .u64 m D d) fun h => some (.s (.i .i64 0), h)) none) none) none) fun _ => none) fun _ _ => none
theorem nReadQ_eq : nReadQ = nRead := by
  unfold nReadQ nRead
  simp only [wgQ_eq, wgF_eq]
theorem nWriteQ_eq : nWriteQ = nWrite := by
  unfold nWriteQ nWrite
  simp only [wsQ_eq, wsK_eq]
theorem nReadQ_ok {Y : Lay} {κ : KP} : NfOk Y Tryz.prog κ 33 nReadQ := by rw [nReadQ_eq]; exact nRead_ok
theorem nWriteQ_ok {Y : Lay} {κ : KP} : NfOk Y Tryz.prog κ 100 nWriteQ := by rw [nWriteQ_eq]; exact nWrite_ok
noncomputable def hiO (o : List (Nat × Int)) : List (Nat × Int) := List.rec [] (fun x _ ih => Bool.rec ih (x :: ih) (Nat.ble 512 x.1)) o
noncomputable def addQ (Q : Nat) (d : Wt) : Wt := Wt.rec (fun m o => .mk m (Bool.rec (qOv Q ++ o) o (Nat.beq Q 0))) d
noncomputable def WQ (Q : Nat) (l : List (Nat × Nat)) (o : List (Nat × Int)) : Wt := addQ Q (W l o)
noncomputable def wBQ (h : Hp) (p : Pth) (Q : Nat) (l : List (Nat × Int)) : B := B.rec .dd (fun _ => .dd) (fun _ => .dd) (fun _ _ _ => .dd) (fun k m D d => .w k m D (addQ Q (wup (Wt.rec (fun m o => .mk m (hiO o)) d) l))) (fun _ _ => .dd) (fun _ => .dd) (fun _ _ _ _ => .dd) (fun _ _ _ _ _ _ => .dd) .dd (fun _ => .dd) (fun _ => .dd) (h.at p)
end Go.E
