/- A part of the proof of the claim that the last text of this folder states. -/
import Derived.Test.YtebgbhgehnpahaaGreatDoorP11
import Derived.Test.YtebgbhgehnpahaaGreatDoorP19
import Derived.Test.YtebgbhgehnpahaaGreatDoorP20
import Derived.Test.YtebgbhgehnpahaaGreatDoorP24
import Derived.Test.YtebgbhgehnpahaaGreatDoorP25
import Derived.Test.YtebgbhgehnpahaaGreatDoorP26
import Derived.Test.YtebgbhgehnpahaaGreatDoorP27
import Derived.Test.YtebgbhgehnpahaaGreatDoorP28
import Derived.Test.YtebgbhgehnpahaaGreatDoorP29
import Derived.Test.YtebgbhgehnpahaaGreatDoorP30
import Derived.Test.YtebgbhgehnpahaaGreatDoorP31
import Derived.Test.YtebgbhgehnpahaaGreatDoorP32
import Derived.Test.YtebgbhgehnpahaaGreatDoorP33
import Derived.Test.YtebgbhgehnpahaaGreatDoorP34
import Derived.Test.YtebgbhgehnpahaaGreatDoorP35
import Derived.Test.YtebgbhgehnpahaaGreatDoorP36
import Derived.Test.YtebgbhgehnpahaaGreatDoorP37
import Derived.Test.YtebgbhgehnpahaaGreatDoorP38
import Derived.Test.YtebgbhgehnpahaaGreatDoorP39
import Derived.Test.YtebgbhgehnpahaaGreatDoorP40
import Derived.Test.YtebgbhgehnpahaaGreatDoorP41
import Derived.Test.YtebgbhgehnpahaaGreatDoorP42
import Derived.Test.YtebgbhgehnpahaaGreatDoorP43
import Derived.Test.YtebgbhgehnpahaaGreatDoorP44
import Derived.Test.YtebgbhgehnpahaaGreatDoorP45
import Derived.Test.YtebgbhgehnpahaaGreatDoorP46
import Derived.Test.YtebgbhgehnpahaaGreatDoorP47
import Derived.Test.YtebgbhgehnpahaaGreatDoorP48
import Derived.Test.YtebgbhgehnpahaaGreatDoorP49
namespace Go.Proofs.YtebgbhgehnpahaaGreatDoor
open Go.E
set_option linter.all false
set_option maxRecDepth 100000
section
variable {ζ : (Nat → Int) × Nat}
noncomputable abbrev sP := splL (calM prog nat 60)
abbrev Ck (ζ : (Nat → Int) × Nat) (c : Cal) : Prop := CalOk Yt Tryz.prog (kp Yt Tryz.prog ζ) c
theorem cm : Ck ζ (calM prog nat 60) := calM_ok mixed progOk nat_ok 60
theorem m2 {s0 : S} {A : List V} {H : Hp} {v : V} {H' : Hp} (h : runB (trimC (calM prog nat 60) s0 A H) v H' = true) : Ck ζ (memS s0 A H v H') := memS_ok (trimC_ok cm) h
theorem alive_ok : Ck ζ (memS fa0S fa0A fa0H fa0V fa0R) := memS_ok (trimC_ok (calM_ok mixed progOk (orC_ok (m2 fa4) nat_ok) 60)) fa0
theorem fv64 (ρ : Nat → Int) : fval ρ 64 < 30 := by
  have h := (fval_ok ρ 64).2
  have h2 : sBd 64 = 29 := by decide +kernel
  omega
theorem fv80 (ρ : Nat → Int) : fval ρ 80 < 16 := by
  have h := (fval_ok ρ 80).2
  have h2 : sBd 80 = 15 := by decide +kernel
  omega
theorem fv96 (ρ : Nat → Int) : fval ρ 96 < 9 := by
  have h := (fval_ok ρ 96).2
  have h2 : sBd 96 = 8 := by decide +kernel
  omega
theorem psy (hw : (Lit.int .i64 (ζ.1 0)).wf = true) (h8 : ζ.1 64 = pickV (ζ.1 0) ((30 : Nat) : Int)) (hb : pickV (ζ.1 0) ((30 : Nat) : Int) ≤ ((29 : Nat) : Int)) : Ck ζ (oraC (Pth.of 17) [.s (.i .i64 ((symN + 0 : Nat) : Int)), .s (.i .i64 (.ofNat 30))] (.s (.i .i64 (.ofNat 151134174195902356389888)))) :=
  pick_gen (κ := kp Yt Tryz.prog ζ) (j := 0) (by decide +kernel) hw (by decide) (by decide) fun e hκ => by
    obtain ⟨q1, q2⟩ := pick_rg (a := ζ.1 0) (b := ((30 : Nat) : Int)) (by decide)
    have h1 : ((sLb 64 : Nat) : Int) = 0 := by decide +kernel
    have h2 : ((sBd 64 : Nat) : Int) = ((29 : Nat) : Int) := by decide +kernel
    exact fld_val (e := e) (n := 151134174195902356389888) (j := 64) (b := pickV (ζ.1 0) ((30 : Nat) : Int)) (by decide +kernel) (by decide +kernel) (by decide +kernel) (by decide +kernel) (by rw [hκ.2.1]; exact h8) (by rw [h1]; exact q1) (by rw [h2]; exact hb)
theorem rsy (hw : (Lit.int .i64 (ζ.1 1)).wf = true) (h8 : ζ.1 80 = pickV (ζ.1 1) ((16 : Nat) : Int)) (hb : pickV (ζ.1 1) ((16 : Nat) : Int) ≤ ((15 : Nat) : Int)) : Ck ζ (oraC (Pth.of 17) [.s (.i .i64 ((symN + 1 : Nat) : Int)), .s (.i .i64 (.ofNat 16))] (.s (.i .i64 (.ofNat 188913106058859518099456)))) :=
  pick_gen (κ := kp Yt Tryz.prog ζ) (j := 1) (by decide +kernel) hw (by decide) (by decide) fun e hκ => by
    obtain ⟨q1, q2⟩ := pick_rg (a := ζ.1 1) (b := ((16 : Nat) : Int)) (by decide)
    have h1 : ((sLb 80 : Nat) : Int) = 0 := by decide +kernel
    have h2 : ((sBd 80 : Nat) : Int) = ((15 : Nat) : Int) := by decide +kernel
    exact fld_val (e := e) (n := 188913106058859518099456) (j := 80) (b := pickV (ζ.1 1) ((16 : Nat) : Int)) (by decide +kernel) (by decide +kernel) (by decide +kernel) (by decide +kernel) (by rw [hκ.2.1]; exact h8) (by rw [h1]; exact q1) (by rw [h2]; exact hb)
theorem ysy (hw : (Lit.int .i64 (ζ.1 3)).wf = true) (h8 : ζ.1 96 = pickV (ζ.1 3) ((10 : Nat) : Int)) (hb : pickV (ζ.1 3) ((10 : Nat) : Int) ≤ ((8 : Nat) : Int)) : Ck ζ (oraC (Pth.of 17) [.s (.i .i64 ((symN + 3 : Nat) : Int)), .s (.i .i64 (.ofNat 10))] (.s (.i .i64 (.ofNat 226692037921816679809024)))) :=
  pick_gen (κ := kp Yt Tryz.prog ζ) (j := 3) (by decide +kernel) hw (by decide) (by decide) fun e hκ => by
    obtain ⟨q1, q2⟩ := pick_rg (a := ζ.1 3) (b := ((10 : Nat) : Int)) (by decide)
    have h1 : ((sLb 96 : Nat) : Int) = 0 := by decide +kernel
    have h2 : ((sBd 96 : Nat) : Int) = ((8 : Nat) : Int) := by decide +kernel
    exact fld_val (e := e) (n := 226692037921816679809024) (j := 96) (b := pickV (ζ.1 3) ((10 : Nat) : Int)) (by decide +kernel) (by decide +kernel) (by decide +kernel) (by decide +kernel) (by rw [hκ.2.1]; exact h8) (by rw [h1]; exact q1) (by rw [h2]; exact hb)
theorem w0_o : Ck ζ (memS w0S w0A w0H w0V w0R) := memS_ok (cm) w0
theorem w2_a : ∀ c, c < 30 → sP 64 c w2S w2A w2H w2V w2R = true
  | 0, _ => w2_0
  | 1, _ => w2_1
  | 2, _ => w2_2
  | 3, _ => w2_3
  | 4, _ => w2_4
  | 5, _ => w2_5
  | 6, _ => w2_6
  | 7, _ => w2_7
  | 8, _ => w2_8
  | 9, _ => w2_9
  | 10, _ => w2_10
  | 11, _ => w2_11
  | 12, _ => w2_12
  | 13, _ => w2_13
  | 14, _ => w2_14
  | 15, _ => w2_15
  | 16, _ => w2_16
  | 17, _ => w2_17
  | 18, _ => w2_18
  | 19, _ => w2_19
  | 20, _ => w2_20
  | 21, _ => w2_21
  | 22, _ => w2_22
  | 23, _ => w2_23
  | 24, _ => w2_24
  | 25, _ => w2_25
  | 26, _ => w2_26
  | 27, _ => w2_27
  | 28, _ => w2_28
  | 29, _ => w2_29
  | n + 30, h => absurd h (by omega)
theorem w2_o : Ck ζ (memS w2S w2A w2H w2V w2R) := splL_ok cm (fv64 ζ.1) w2_k w2_a
theorem w1_o : Ck ζ (memS w1S w1A w1H w1V w1R) := memS_ok ((calM_ok mixed progOk (orC_ok w2_o nat_ok) 60)) w1
theorem w3_o : Ck ζ (memS w3S w3A w3H w3V w3R) := memS_ok (cm) w3
theorem w5_a : ∀ c, c < 30 → sP 64 c w5S w5A w5H w5V w5R = true
  | 0, _ => w5_0
  | 1, _ => w5_1
  | 2, _ => w5_2
  | 3, _ => w5_3
  | 4, _ => w5_4
  | 5, _ => w5_5
  | 6, _ => w5_6
  | 7, _ => w5_7
  | 8, _ => w5_8
  | 9, _ => w5_9
  | 10, _ => w5_10
  | 11, _ => w5_11
  | 12, _ => w5_12
  | 13, _ => w5_13
  | 14, _ => w5_14
  | 15, _ => w5_15
  | 16, _ => w5_16
  | 17, _ => w5_17
  | 18, _ => w5_18
  | 19, _ => w5_19
  | 20, _ => w5_20
  | 21, _ => w5_21
  | 22, _ => w5_22
  | 23, _ => w5_23
  | 24, _ => w5_24
  | 25, _ => w5_25
  | 26, _ => w5_26
  | 27, _ => w5_27
  | 28, _ => w5_28
  | 29, _ => w5_29
  | n + 30, h => absurd h (by omega)
theorem w5_o : Ck ζ (memS w5S w5A w5H w5V w5R) := splL_ok cm (fv64 ζ.1) w5_k w5_a
theorem w6_a : ∀ c, c < 16 → sP 80 c w6S w6A w6H w6V w6R = true
  | 0, _ => w6_0
  | 1, _ => w6_1
  | 2, _ => w6_2
  | 3, _ => w6_3
  | 4, _ => w6_4
  | 5, _ => w6_5
  | 6, _ => w6_6
  | 7, _ => w6_7
  | 8, _ => w6_8
  | 9, _ => w6_9
  | 10, _ => w6_10
  | 11, _ => w6_11
  | 12, _ => w6_12
  | 13, _ => w6_13
  | 14, _ => w6_14
  | 15, _ => w6_15
  | n + 16, h => absurd h (by omega)
theorem w6_o : Ck ζ (memS w6S w6A w6H w6V w6R) := splL_ok cm (fv80 ζ.1) w6_k w6_a
theorem w4_o : Ck ζ (memS w4S w4A w4H w4V w4R) := memS_ok ((calM_ok mixed progOk (orC_ok w5_o (orC_ok w6_o nat_ok)) 60)) w4
theorem w8_a : ∀ c, c < 30 → sP 64 c w8S w8A w8H w8V w8R = true
  | 0, _ => w8_0
  | 1, _ => w8_1
  | 2, _ => w8_2
  | 3, _ => w8_3
  | 4, _ => w8_4
  | 5, _ => w8_5
  | 6, _ => w8_6
  | 7, _ => w8_7
  | 8, _ => w8_8
  | 9, _ => w8_9
  | 10, _ => w8_10
  | 11, _ => w8_11
  | 12, _ => w8_12
  | 13, _ => w8_13
  | 14, _ => w8_14
  | 15, _ => w8_15
  | 16, _ => w8_16
  | 17, _ => w8_17
  | 18, _ => w8_18
  | 19, _ => w8_19
  | 20, _ => w8_20
  | 21, _ => w8_21
  | 22, _ => w8_22
  | 23, _ => w8_23
  | 24, _ => w8_24
  | 25, _ => w8_25
  | 26, _ => w8_26
  | 27, _ => w8_27
  | 28, _ => w8_28
  | 29, _ => w8_29
  | n + 30, h => absurd h (by omega)
theorem w8_o : Ck ζ (memS w8S w8A w8H w8V w8R) := splL_ok cm (fv64 ζ.1) w8_k w8_a
theorem w9_a : ∀ c, c < 16 → sP 80 c w9S w9A w9H w9V w9R = true
  | 0, _ => w9_0
  | 1, _ => w9_1
  | 2, _ => w9_2
  | 3, _ => w9_3
  | 4, _ => w9_4
  | 5, _ => w9_5
  | 6, _ => w9_6
  | 7, _ => w9_7
  | 8, _ => w9_8
  | 9, _ => w9_9
  | 10, _ => w9_10
  | 11, _ => w9_11
  | 12, _ => w9_12
  | 13, _ => w9_13
  | 14, _ => w9_14
  | 15, _ => w9_15
  | n + 16, h => absurd h (by omega)
theorem w9_o : Ck ζ (memS w9S w9A w9H w9V w9R) := splL_ok cm (fv80 ζ.1) w9_k w9_a
theorem w7_o : Ck ζ (memS w7S w7A w7H w7V w7R) := memS_ok ((calM_ok mixed progOk (orC_ok w8_o (orC_ok w9_o nat_ok)) 60)) w7
theorem w10_o : Ck ζ (memS w10S w10A w10H w10V w10R) := memS_ok (cm) w10
theorem w12_a : ∀ c, c < 30 → sP 64 c w12S w12A w12H w12V w12R = true
  | 0, _ => w12_0
  | 1, _ => w12_1
  | 2, _ => w12_2
  | 3, _ => w12_3
  | 4, _ => w12_4
  | 5, _ => w12_5
  | 6, _ => w12_6
  | 7, _ => w12_7
  | 8, _ => w12_8
  | 9, _ => w12_9
  | 10, _ => w12_10
  | 11, _ => w12_11
  | 12, _ => w12_12
  | 13, _ => w12_13
  | 14, _ => w12_14
  | 15, _ => w12_15
  | 16, _ => w12_16
  | 17, _ => w12_17
  | 18, _ => w12_18
  | 19, _ => w12_19
  | 20, _ => w12_20
  | 21, _ => w12_21
  | 22, _ => w12_22
  | 23, _ => w12_23
  | 24, _ => w12_24
  | 25, _ => w12_25
  | 26, _ => w12_26
  | 27, _ => w12_27
  | 28, _ => w12_28
  | 29, _ => w12_29
  | n + 30, h => absurd h (by omega)
theorem w12_o : Ck ζ (memS w12S w12A w12H w12V w12R) := splL_ok cm (fv64 ζ.1) w12_k w12_a
theorem w11_o : Ck ζ (memS w11S w11A w11H w11V w11R) := memS_ok ((calM_ok mixed progOk (orC_ok w12_o nat_ok) 60)) w11
theorem w14_a : ∀ c, c < 30 → sP 64 c w14S w14A w14H w14V w14R = true
  | 0, _ => w14_0
  | 1, _ => w14_1
  | 2, _ => w14_2
  | 3, _ => w14_3
  | 4, _ => w14_4
  | 5, _ => w14_5
  | 6, _ => w14_6
  | 7, _ => w14_7
  | 8, _ => w14_8
  | 9, _ => w14_9
  | 10, _ => w14_10
  | 11, _ => w14_11
  | 12, _ => w14_12
  | 13, _ => w14_13
  | 14, _ => w14_14
  | 15, _ => w14_15
  | 16, _ => w14_16
  | 17, _ => w14_17
  | 18, _ => w14_18
  | 19, _ => w14_19
  | 20, _ => w14_20
  | 21, _ => w14_21
  | 22, _ => w14_22
  | 23, _ => w14_23
  | 24, _ => w14_24
  | 25, _ => w14_25
  | 26, _ => w14_26
  | 27, _ => w14_27
  | 28, _ => w14_28
  | 29, _ => w14_29
  | n + 30, h => absurd h (by omega)
theorem w14_o : Ck ζ (memS w14S w14A w14H w14V w14R) := splL_ok cm (fv64 ζ.1) w14_k w14_a
theorem w13_o : Ck ζ (memS w13S w13A w13H w13V w13R) := memS_ok ((calM_ok mixed progOk (orC_ok w14_o nat_ok) 60)) w13
theorem w16_a : ∀ c, c < 30 → sP 64 c w16S w16A w16H w16V w16R = true
  | 0, _ => w16_0
  | 1, _ => w16_1
  | 2, _ => w16_2
  | 3, _ => w16_3
  | 4, _ => w16_4
  | 5, _ => w16_5
  | 6, _ => w16_6
  | 7, _ => w16_7
  | 8, _ => w16_8
  | 9, _ => w16_9
  | 10, _ => w16_10
  | 11, _ => w16_11
  | 12, _ => w16_12
  | 13, _ => w16_13
  | 14, _ => w16_14
  | 15, _ => w16_15
  | 16, _ => w16_16
  | 17, _ => w16_17
  | 18, _ => w16_18
  | 19, _ => w16_19
  | 20, _ => w16_20
  | 21, _ => w16_21
  | 22, _ => w16_22
  | 23, _ => w16_23
  | 24, _ => w16_24
  | 25, _ => w16_25
  | 26, _ => w16_26
  | 27, _ => w16_27
  | 28, _ => w16_28
  | 29, _ => w16_29
  | n + 30, h => absurd h (by omega)
theorem w16_o : Ck ζ (memS w16S w16A w16H w16V w16R) := splL_ok cm (fv64 ζ.1) w16_k w16_a
theorem w17_a : ∀ c, c < 9 → sP 96 c w17S w17A w17H w17V w17R = true
  | 0, _ => w17_0
  | 1, _ => w17_1
  | 2, _ => w17_2
  | 3, _ => w17_3
  | 4, _ => w17_4
  | 5, _ => w17_5
  | 6, _ => w17_6
  | 7, _ => w17_7
  | 8, _ => w17_8
  | n + 9, h => absurd h (by omega)
theorem w17_o : Ck ζ (memS w17S w17A w17H w17V w17R) := splL_ok cm (fv96 ζ.1) w17_k w17_a
theorem w18_a : ∀ c, c < 9 → sP 96 c w18S w18A w18H w18V w18R = true
  | 0, _ => w18_0
  | 1, _ => w18_1
  | 2, _ => w18_2
  | 3, _ => w18_3
  | 4, _ => w18_4
  | 5, _ => w18_5
  | 6, _ => w18_6
  | 7, _ => w18_7
  | 8, _ => w18_8
  | n + 9, h => absurd h (by omega)
theorem w18_o : Ck ζ (memS w18S w18A w18H w18V w18R) := splL_ok cm (fv96 ζ.1) w18_k w18_a
theorem w15_o : Ck ζ (memS w15S w15A w15H w15V w15R) := memS_ok ((calM_ok mixed progOk (orC_ok w16_o (orC_ok w17_o (orC_ok w18_o nat_ok))) 60)) w15
theorem w20_a : ∀ c, c < 30 → sP 64 c w20S w20A w20H w20V w20R = true
  | 0, _ => w20_0
  | 1, _ => w20_1
  | 2, _ => w20_2
  | 3, _ => w20_3
  | 4, _ => w20_4
  | 5, _ => w20_5
  | 6, _ => w20_6
  | 7, _ => w20_7
  | 8, _ => w20_8
  | 9, _ => w20_9
  | 10, _ => w20_10
  | 11, _ => w20_11
  | 12, _ => w20_12
  | 13, _ => w20_13
  | 14, _ => w20_14
  | 15, _ => w20_15
  | 16, _ => w20_16
  | 17, _ => w20_17
  | 18, _ => w20_18
  | 19, _ => w20_19
  | 20, _ => w20_20
  | 21, _ => w20_21
  | 22, _ => w20_22
  | 23, _ => w20_23
  | 24, _ => w20_24
  | 25, _ => w20_25
  | 26, _ => w20_26
  | 27, _ => w20_27
  | 28, _ => w20_28
  | 29, _ => w20_29
  | n + 30, h => absurd h (by omega)
theorem w20_o : Ck ζ (memS w20S w20A w20H w20V w20R) := splL_ok cm (fv64 ζ.1) w20_k w20_a
theorem w21_a : ∀ c, c < 30 → sP 64 c w21S w21A w21H w21V w21R = true
  | 0, _ => w21_0
  | 1, _ => w21_1
  | 2, _ => w21_2
  | 3, _ => w21_3
  | 4, _ => w21_4
  | 5, _ => w21_5
  | 6, _ => w21_6
  | 7, _ => w21_7
  | 8, _ => w21_8
  | 9, _ => w21_9
  | 10, _ => w21_10
  | 11, _ => w21_11
  | 12, _ => w21_12
  | 13, _ => w21_13
  | 14, _ => w21_14
  | 15, _ => w21_15
  | 16, _ => w21_16
  | 17, _ => w21_17
  | 18, _ => w21_18
  | 19, _ => w21_19
  | 20, _ => w21_20
  | 21, _ => w21_21
  | 22, _ => w21_22
  | 23, _ => w21_23
  | 24, _ => w21_24
  | 25, _ => w21_25
  | 26, _ => w21_26
  | 27, _ => w21_27
  | 28, _ => w21_28
  | 29, _ => w21_29
  | n + 30, h => absurd h (by omega)
theorem w21_o : Ck ζ (memS w21S w21A w21H w21V w21R) := splL_ok cm (fv64 ζ.1) w21_k w21_a
theorem v0_o : Ck ζ (memS v0S v0A v0H v0V v0R) := memS_ok (cm) v0
theorem v1_o : Ck ζ (memS v1S v1A v1H v1V v1R) := memS_ok (cm) v1
theorem v2_o : Ck ζ (memS v2S v2A v2H v2V v2R) := memS_ok (cm) v2
theorem v3_o : Ck ζ (memS v3S v3A v3H v3V v3R) := memS_ok (cm) v3
theorem v4_o : Ck ζ (memS v4S v4A v4H v4V v4R) := memS_ok (cm) v4
theorem v5_o : Ck ζ (memS v5S v5A v5H v5V v5R) := memS_ok (cm) v5
theorem w22_a : ∀ c, c < 9 → sP 96 c w22S w22A w22H w22V w22R = true
  | 0, _ => w22_0
  | 1, _ => w22_1
  | 2, _ => w22_2
  | 3, _ => w22_3
  | 4, _ => w22_4
  | 5, _ => w22_5
  | 6, _ => w22_6
  | 7, _ => w22_7
  | 8, _ => w22_8
  | n + 9, h => absurd h (by omega)
theorem w22_o : Ck ζ (memS w22S w22A w22H w22V w22R) := splL_ok cm (fv96 ζ.1) w22_k w22_a
theorem v6_o : Ck ζ (memS v6S v6A v6H v6V v6R) := memS_ok (cm) v6
theorem v7_o : Ck ζ (memS v7S v7A v7H v7V v7R) := memS_ok (cm) v7
theorem v8_o : Ck ζ (memS v8S v8A v8H v8V v8R) := memS_ok (cm) v8
theorem v9_o : Ck ζ (memS v9S v9A v9H v9V v9R) := memS_ok (cm) v9
theorem w19_o : Ck ζ (memS w19S w19A w19H w19V w19R) := memS_ok (trimC_ok (calM_ok mixed progOk (orC_ok w20_o (orC_ok w21_o (orC_ok v0_o (orC_ok v1_o (orC_ok v2_o (orC_ok v3_o (orC_ok v4_o (orC_ok v5_o (orC_ok w22_o (orC_ok v6_o (orC_ok v7_o (orC_ok v8_o (orC_ok v9_o nat_ok))))))))))))) 60)) w19
theorem w24_a : ∀ c, c < 9 → sP 96 c w24S w24A w24H w24V w24R = true
  | 0, _ => w24_0
  | 1, _ => w24_1
  | 2, _ => w24_2
  | 3, _ => w24_3
  | 4, _ => w24_4
  | 5, _ => w24_5
  | 6, _ => w24_6
  | 7, _ => w24_7
  | 8, _ => w24_8
  | n + 9, h => absurd h (by omega)
theorem w24_o : Ck ζ (memS w24S w24A w24H w24V w24R) := splL_ok cm (fv96 ζ.1) w24_k w24_a
theorem w25_a : ∀ c, c < 9 → sP 96 c w25S w25A w25H w25V w25R = true
  | 0, _ => w25_0
  | 1, _ => w25_1
  | 2, _ => w25_2
  | 3, _ => w25_3
  | 4, _ => w25_4
  | 5, _ => w25_5
  | 6, _ => w25_6
  | 7, _ => w25_7
  | 8, _ => w25_8
  | n + 9, h => absurd h (by omega)
theorem w25_o : Ck ζ (memS w25S w25A w25H w25V w25R) := splL_ok cm (fv96 ζ.1) w25_k w25_a
theorem w26_a : ∀ c, c < 9 → sP 96 c w26S w26A w26H w26V w26R = true
  | 0, _ => w26_0
  | 1, _ => w26_1
  | 2, _ => w26_2
  | 3, _ => w26_3
  | 4, _ => w26_4
  | 5, _ => w26_5
  | 6, _ => w26_6
  | 7, _ => w26_7
  | 8, _ => w26_8
  | n + 9, h => absurd h (by omega)
theorem w26_o : Ck ζ (memS w26S w26A w26H w26V w26R) := splL_ok cm (fv96 ζ.1) w26_k w26_a
theorem w27_a : ∀ c, c < 9 → sP 96 c w27S w27A w27H w27V w27R = true
  | 0, _ => w27_0
  | 1, _ => w27_1
  | 2, _ => w27_2
  | 3, _ => w27_3
  | 4, _ => w27_4
  | 5, _ => w27_5
  | 6, _ => w27_6
  | 7, _ => w27_7
  | 8, _ => w27_8
  | n + 9, h => absurd h (by omega)
theorem w27_o : Ck ζ (memS w27S w27A w27H w27V w27R) := splL_ok cm (fv96 ζ.1) w27_k w27_a
theorem w28_a : ∀ c, c < 9 → sP 96 c w28S w28A w28H w28V w28R = true
  | 0, _ => w28_0
  | 1, _ => w28_1
  | 2, _ => w28_2
  | 3, _ => w28_3
  | 4, _ => w28_4
  | 5, _ => w28_5
  | 6, _ => w28_6
  | 7, _ => w28_7
  | 8, _ => w28_8
  | n + 9, h => absurd h (by omega)
theorem w28_o : Ck ζ (memS w28S w28A w28H w28V w28R) := splL_ok cm (fv96 ζ.1) w28_k w28_a
theorem w29_a : ∀ c, c < 9 → sP 96 c w29S w29A w29H w29V w29R = true
  | 0, _ => w29_0
  | 1, _ => w29_1
  | 2, _ => w29_2
  | 3, _ => w29_3
  | 4, _ => w29_4
  | 5, _ => w29_5
  | 6, _ => w29_6
  | 7, _ => w29_7
  | 8, _ => w29_8
  | n + 9, h => absurd h (by omega)
theorem w29_o : Ck ζ (memS w29S w29A w29H w29V w29R) := splL_ok cm (fv96 ζ.1) w29_k w29_a
theorem w30_a : ∀ c, c < 9 → sP 96 c w30S w30A w30H w30V w30R = true
  | 0, _ => w30_0
  | 1, _ => w30_1
  | 2, _ => w30_2
  | 3, _ => w30_3
  | 4, _ => w30_4
  | 5, _ => w30_5
  | 6, _ => w30_6
  | 7, _ => w30_7
  | 8, _ => w30_8
  | n + 9, h => absurd h (by omega)
theorem w30_o : Ck ζ (memS w30S w30A w30H w30V w30R) := splL_ok cm (fv96 ζ.1) w30_k w30_a
theorem w31_a : ∀ c, c < 9 → sP 96 c w31S w31A w31H w31V w31R = true
  | 0, _ => w31_0
  | 1, _ => w31_1
  | 2, _ => w31_2
  | 3, _ => w31_3
  | 4, _ => w31_4
  | 5, _ => w31_5
  | 6, _ => w31_6
  | 7, _ => w31_7
  | 8, _ => w31_8
  | n + 9, h => absurd h (by omega)
theorem w31_o : Ck ζ (memS w31S w31A w31H w31V w31R) := splL_ok cm (fv96 ζ.1) w31_k w31_a
theorem w32_a : ∀ c, c < 30 → sP 64 c w32S w32A w32H w32V w32R = true
  | 0, _ => w32_0
  | 1, _ => w32_1
  | 2, _ => w32_2
  | 3, _ => w32_3
  | 4, _ => w32_4
  | 5, _ => w32_5
  | 6, _ => w32_6
  | 7, _ => w32_7
  | 8, _ => w32_8
  | 9, _ => w32_9
  | 10, _ => w32_10
  | 11, _ => w32_11
  | 12, _ => w32_12
  | 13, _ => w32_13
  | 14, _ => w32_14
  | 15, _ => w32_15
  | 16, _ => w32_16
  | 17, _ => w32_17
  | 18, _ => w32_18
  | 19, _ => w32_19
  | 20, _ => w32_20
  | 21, _ => w32_21
  | 22, _ => w32_22
  | 23, _ => w32_23
  | 24, _ => w32_24
  | 25, _ => w32_25
  | 26, _ => w32_26
  | 27, _ => w32_27
  | 28, _ => w32_28
  | 29, _ => w32_29
  | n + 30, h => absurd h (by omega)
theorem w32_o : Ck ζ (memS w32S w32A w32H w32V w32R) := splL_ok cm (fv64 ζ.1) w32_k w32_a
theorem w33_a : ∀ c, c < 9 → sP 96 c w33S w33A w33H w33V w33R = true
  | 0, _ => w33_0
  | 1, _ => w33_1
  | 2, _ => w33_2
  | 3, _ => w33_3
  | 4, _ => w33_4
  | 5, _ => w33_5
  | 6, _ => w33_6
  | 7, _ => w33_7
  | 8, _ => w33_8
  | n + 9, h => absurd h (by omega)
theorem w33_o : Ck ζ (memS w33S w33A w33H w33V w33R) := splL_ok cm (fv96 ζ.1) w33_k w33_a
theorem w23_o : Ck ζ (memS w23S w23A w23H w23V w23R) := memS_ok ((calM_ok mixed progOk (orC_ok w24_o (orC_ok w25_o (orC_ok w26_o (orC_ok w27_o (orC_ok w28_o (orC_ok w29_o (orC_ok w30_o (orC_ok w31_o (orC_ok w32_o (orC_ok w33_o nat_ok)))))))))) 60)) w23
theorem w35_a : ∀ c, c < 30 → sP 64 c w35S w35A w35H w35V w35R = true
  | 0, _ => w35_0
  | 1, _ => w35_1
  | 2, _ => w35_2
  | 3, _ => w35_3
  | 4, _ => w35_4
  | 5, _ => w35_5
  | 6, _ => w35_6
  | 7, _ => w35_7
  | 8, _ => w35_8
  | 9, _ => w35_9
  | 10, _ => w35_10
  | 11, _ => w35_11
  | 12, _ => w35_12
  | 13, _ => w35_13
  | 14, _ => w35_14
  | 15, _ => w35_15
  | 16, _ => w35_16
  | 17, _ => w35_17
  | 18, _ => w35_18
  | 19, _ => w35_19
  | 20, _ => w35_20
  | 21, _ => w35_21
  | 22, _ => w35_22
  | 23, _ => w35_23
  | 24, _ => w35_24
  | 25, _ => w35_25
  | 26, _ => w35_26
  | 27, _ => w35_27
  | 28, _ => w35_28
  | 29, _ => w35_29
  | n + 30, h => absurd h (by omega)
theorem w35_o : Ck ζ (memS w35S w35A w35H w35V w35R) := splL_ok cm (fv64 ζ.1) w35_k w35_a
theorem w36_a : ∀ c, c < 30 → sP 64 c w36S w36A w36H w36V w36R = true
  | 0, _ => w36_0
  | 1, _ => w36_1
  | 2, _ => w36_2
  | 3, _ => w36_3
  | 4, _ => w36_4
  | 5, _ => w36_5
  | 6, _ => w36_6
  | 7, _ => w36_7
  | 8, _ => w36_8
  | 9, _ => w36_9
  | 10, _ => w36_10
  | 11, _ => w36_11
  | 12, _ => w36_12
  | 13, _ => w36_13
  | 14, _ => w36_14
  | 15, _ => w36_15
  | 16, _ => w36_16
  | 17, _ => w36_17
  | 18, _ => w36_18
  | 19, _ => w36_19
  | 20, _ => w36_20
  | 21, _ => w36_21
  | 22, _ => w36_22
  | 23, _ => w36_23
  | 24, _ => w36_24
  | 25, _ => w36_25
  | 26, _ => w36_26
  | 27, _ => w36_27
  | 28, _ => w36_28
  | 29, _ => w36_29
  | n + 30, h => absurd h (by omega)
theorem w36_o : Ck ζ (memS w36S w36A w36H w36V w36R) := splL_ok cm (fv64 ζ.1) w36_k w36_a
theorem v10_o : Ck ζ (memS v10S v10A v10H v10V v10R) := memS_ok (cm) v10
theorem v11_o : Ck ζ (memS v11S v11A v11H v11V v11R) := memS_ok (cm) v11
theorem v12_o : Ck ζ (memS v12S v12A v12H v12V v12R) := memS_ok (cm) v12
theorem v13_o : Ck ζ (memS v13S v13A v13H v13V v13R) := memS_ok (cm) v13
theorem v14_o : Ck ζ (memS v14S v14A v14H v14V v14R) := memS_ok (cm) v14
theorem v15_o : Ck ζ (memS v15S v15A v15H v15V v15R) := memS_ok (cm) v15
theorem v16_o : Ck ζ (memS v16S v16A v16H v16V v16R) := memS_ok (cm) v16
theorem v17_o : Ck ζ (memS v17S v17A v17H v17V v17R) := memS_ok (cm) v17
theorem v18_o : Ck ζ (memS v18S v18A v18H v18V v18R) := memS_ok (cm) v18
theorem v19_o : Ck ζ (memS v19S v19A v19H v19V v19R) := memS_ok (cm) v19
theorem v20_o : Ck ζ (memS v20S v20A v20H v20V v20R) := memS_ok (cm) v20
theorem w34_o : Ck ζ (memS w34S w34A w34H w34V w34R) := memS_ok (trimC_ok (calM_ok mixed progOk (orC_ok w35_o (orC_ok w36_o (orC_ok v10_o (orC_ok v11_o (orC_ok v12_o (orC_ok v13_o (orC_ok v14_o (orC_ok v15_o (orC_ok v16_o (orC_ok v17_o (orC_ok v18_o (orC_ok v19_o (orC_ok v20_o nat_ok))))))))))))) 60)) w34
theorem w38_a : ∀ c, c < 30 → sP 64 c w38S w38A w38H w38V w38R = true
  | 0, _ => w38_0
  | 1, _ => w38_1
  | 2, _ => w38_2
  | 3, _ => w38_3
  | 4, _ => w38_4
  | 5, _ => w38_5
  | 6, _ => w38_6
  | 7, _ => w38_7
  | 8, _ => w38_8
  | 9, _ => w38_9
  | 10, _ => w38_10
  | 11, _ => w38_11
  | 12, _ => w38_12
  | 13, _ => w38_13
  | 14, _ => w38_14
  | 15, _ => w38_15
  | 16, _ => w38_16
  | 17, _ => w38_17
  | 18, _ => w38_18
  | 19, _ => w38_19
  | 20, _ => w38_20
  | 21, _ => w38_21
  | 22, _ => w38_22
  | 23, _ => w38_23
  | 24, _ => w38_24
  | 25, _ => w38_25
  | 26, _ => w38_26
  | 27, _ => w38_27
  | 28, _ => w38_28
  | 29, _ => w38_29
  | n + 30, h => absurd h (by omega)
theorem w38_o : Ck ζ (memS w38S w38A w38H w38V w38R) := splL_ok cm (fv64 ζ.1) w38_k w38_a
theorem w37_o : Ck ζ (memS w37S w37A w37H w37V w37R) := memS_ok ((calM_ok mixed progOk (orC_ok w38_o nat_ok) 60)) w37
theorem w40_a : ∀ c, c < 30 → sP 64 c w40S w40A w40H w40V w40R = true
  | 0, _ => w40_0
  | 1, _ => w40_1
  | 2, _ => w40_2
  | 3, _ => w40_3
  | 4, _ => w40_4
  | 5, _ => w40_5
  | 6, _ => w40_6
  | 7, _ => w40_7
  | 8, _ => w40_8
  | 9, _ => w40_9
  | 10, _ => w40_10
  | 11, _ => w40_11
  | 12, _ => w40_12
  | 13, _ => w40_13
  | 14, _ => w40_14
  | 15, _ => w40_15
  | 16, _ => w40_16
  | 17, _ => w40_17
  | 18, _ => w40_18
  | 19, _ => w40_19
  | 20, _ => w40_20
  | 21, _ => w40_21
  | 22, _ => w40_22
  | 23, _ => w40_23
  | 24, _ => w40_24
  | 25, _ => w40_25
  | 26, _ => w40_26
  | 27, _ => w40_27
  | 28, _ => w40_28
  | 29, _ => w40_29
  | n + 30, h => absurd h (by omega)
theorem w40_o : Ck ζ (memS w40S w40A w40H w40V w40R) := splL_ok cm (fv64 ζ.1) w40_k w40_a
theorem w39_o : Ck ζ (memS w39S w39A w39H w39V w39R) := memS_ok ((calM_ok mixed progOk (orC_ok w40_o nat_ok) 60)) w39
theorem w42_a : ∀ c, c < 30 → sP 64 c w42S w42A w42H w42V w42R = true
  | 0, _ => w42_0
  | 1, _ => w42_1
  | 2, _ => w42_2
  | 3, _ => w42_3
  | 4, _ => w42_4
  | 5, _ => w42_5
  | 6, _ => w42_6
  | 7, _ => w42_7
  | 8, _ => w42_8
  | 9, _ => w42_9
  | 10, _ => w42_10
  | 11, _ => w42_11
  | 12, _ => w42_12
  | 13, _ => w42_13
  | 14, _ => w42_14
  | 15, _ => w42_15
  | 16, _ => w42_16
  | 17, _ => w42_17
  | 18, _ => w42_18
  | 19, _ => w42_19
  | 20, _ => w42_20
  | 21, _ => w42_21
  | 22, _ => w42_22
  | 23, _ => w42_23
  | 24, _ => w42_24
  | 25, _ => w42_25
  | 26, _ => w42_26
  | 27, _ => w42_27
  | 28, _ => w42_28
  | 29, _ => w42_29
  | n + 30, h => absurd h (by omega)
theorem w42_o : Ck ζ (memS w42S w42A w42H w42V w42R) := splL_ok cm (fv64 ζ.1) w42_k w42_a
theorem w41_o : Ck ζ (memS w41S w41A w41H w41V w41R) := memS_ok ((calM_ok mixed progOk (orC_ok w42_o nat_ok) 60)) w41
theorem w44_a : ∀ c, c < 30 → sP 64 c w44S w44A w44H w44V w44R = true
  | 0, _ => w44_0
  | 1, _ => w44_1
  | 2, _ => w44_2
  | 3, _ => w44_3
  | 4, _ => w44_4
  | 5, _ => w44_5
  | 6, _ => w44_6
  | 7, _ => w44_7
  | 8, _ => w44_8
  | 9, _ => w44_9
  | 10, _ => w44_10
  | 11, _ => w44_11
  | 12, _ => w44_12
  | 13, _ => w44_13
  | 14, _ => w44_14
  | 15, _ => w44_15
  | 16, _ => w44_16
  | 17, _ => w44_17
  | 18, _ => w44_18
  | 19, _ => w44_19
  | 20, _ => w44_20
  | 21, _ => w44_21
  | 22, _ => w44_22
  | 23, _ => w44_23
  | 24, _ => w44_24
  | 25, _ => w44_25
  | 26, _ => w44_26
  | 27, _ => w44_27
  | 28, _ => w44_28
  | 29, _ => w44_29
  | n + 30, h => absurd h (by omega)
theorem w44_o : Ck ζ (memS w44S w44A w44H w44V w44R) := splL_ok cm (fv64 ζ.1) w44_k w44_a
theorem w45_a : ∀ c, c < 30 → sP 64 c w45S w45A w45H w45V w45R = true
  | 0, _ => w45_0
  | 1, _ => w45_1
  | 2, _ => w45_2
  | 3, _ => w45_3
  | 4, _ => w45_4
  | 5, _ => w45_5
  | 6, _ => w45_6
  | 7, _ => w45_7
  | 8, _ => w45_8
  | 9, _ => w45_9
  | 10, _ => w45_10
  | 11, _ => w45_11
  | 12, _ => w45_12
  | 13, _ => w45_13
  | 14, _ => w45_14
  | 15, _ => w45_15
  | 16, _ => w45_16
  | 17, _ => w45_17
  | 18, _ => w45_18
  | 19, _ => w45_19
  | 20, _ => w45_20
  | 21, _ => w45_21
  | 22, _ => w45_22
  | 23, _ => w45_23
  | 24, _ => w45_24
  | 25, _ => w45_25
  | 26, _ => w45_26
  | 27, _ => w45_27
  | 28, _ => w45_28
  | 29, _ => w45_29
  | n + 30, h => absurd h (by omega)
theorem w45_o : Ck ζ (memS w45S w45A w45H w45V w45R) := splL_ok cm (fv64 ζ.1) w45_k w45_a
theorem v21_o : Ck ζ (memS v21S v21A v21H v21V v21R) := memS_ok (cm) v21
theorem v22_o : Ck ζ (memS v22S v22A v22H v22V v22R) := memS_ok (cm) v22
theorem v23_o : Ck ζ (memS v23S v23A v23H v23V v23R) := memS_ok (cm) v23
theorem v24_o : Ck ζ (memS v24S v24A v24H v24V v24R) := memS_ok (cm) v24
theorem v25_o : Ck ζ (memS v25S v25A v25H v25V v25R) := memS_ok (cm) v25
theorem v26_o : Ck ζ (memS v26S v26A v26H v26V v26R) := memS_ok (cm) v26
theorem v27_o : Ck ζ (memS v27S v27A v27H v27V v27R) := memS_ok (cm) v27
theorem v28_o : Ck ζ (memS v28S v28A v28H v28V v28R) := memS_ok (cm) v28
theorem v29_o : Ck ζ (memS v29S v29A v29H v29V v29R) := memS_ok (cm) v29
theorem v30_o : Ck ζ (memS v30S v30A v30H v30V v30R) := memS_ok (cm) v30
theorem v31_o : Ck ζ (memS v31S v31A v31H v31V v31R) := memS_ok (cm) v31
theorem w43_o : Ck ζ (memS w43S w43A w43H w43V w43R) := memS_ok (trimC_ok (calM_ok mixed progOk (orC_ok w44_o (orC_ok w45_o (orC_ok v21_o (orC_ok v22_o (orC_ok v23_o (orC_ok v24_o (orC_ok v25_o (orC_ok v26_o (orC_ok v27_o (orC_ok v28_o (orC_ok v29_o (orC_ok v30_o (orC_ok v31_o nat_ok))))))))))))) 60)) w43
theorem w47_a : ∀ c, c < 30 → sP 64 c w47S w47A w47H w47V w47R = true
  | 0, _ => w47_0
  | 1, _ => w47_1
  | 2, _ => w47_2
  | 3, _ => w47_3
  | 4, _ => w47_4
  | 5, _ => w47_5
  | 6, _ => w47_6
  | 7, _ => w47_7
  | 8, _ => w47_8
  | 9, _ => w47_9
  | 10, _ => w47_10
  | 11, _ => w47_11
  | 12, _ => w47_12
  | 13, _ => w47_13
  | 14, _ => w47_14
  | 15, _ => w47_15
  | 16, _ => w47_16
  | 17, _ => w47_17
  | 18, _ => w47_18
  | 19, _ => w47_19
  | 20, _ => w47_20
  | 21, _ => w47_21
  | 22, _ => w47_22
  | 23, _ => w47_23
  | 24, _ => w47_24
  | 25, _ => w47_25
  | 26, _ => w47_26
  | 27, _ => w47_27
  | 28, _ => w47_28
  | 29, _ => w47_29
  | n + 30, h => absurd h (by omega)
theorem w47_o : Ck ζ (memS w47S w47A w47H w47V w47R) := splL_ok cm (fv64 ζ.1) w47_k w47_a
theorem w46_o : Ck ζ (memS w46S w46A w46H w46V w46R) := memS_ok ((calM_ok mixed progOk (orC_ok w47_o nat_ok) 60)) w46
theorem w49_a : ∀ c, c < 30 → sP 64 c w49S w49A w49H w49V w49R = true
  | 0, _ => w49_0
  | 1, _ => w49_1
  | 2, _ => w49_2
  | 3, _ => w49_3
  | 4, _ => w49_4
  | 5, _ => w49_5
  | 6, _ => w49_6
  | 7, _ => w49_7
  | 8, _ => w49_8
  | 9, _ => w49_9
  | 10, _ => w49_10
  | 11, _ => w49_11
  | 12, _ => w49_12
  | 13, _ => w49_13
  | 14, _ => w49_14
  | 15, _ => w49_15
  | 16, _ => w49_16
  | 17, _ => w49_17
  | 18, _ => w49_18
  | 19, _ => w49_19
  | 20, _ => w49_20
  | 21, _ => w49_21
  | 22, _ => w49_22
  | 23, _ => w49_23
  | 24, _ => w49_24
  | 25, _ => w49_25
  | 26, _ => w49_26
  | 27, _ => w49_27
  | 28, _ => w49_28
  | 29, _ => w49_29
  | n + 30, h => absurd h (by omega)
theorem w49_o : Ck ζ (memS w49S w49A w49H w49V w49R) := splL_ok cm (fv64 ζ.1) w49_k w49_a
theorem w50_a : ∀ c, c < 30 → sP 64 c w50S w50A w50H w50V w50R = true
  | 0, _ => w50_0
  | 1, _ => w50_1
  | 2, _ => w50_2
  | 3, _ => w50_3
  | 4, _ => w50_4
  | 5, _ => w50_5
  | 6, _ => w50_6
  | 7, _ => w50_7
  | 8, _ => w50_8
  | 9, _ => w50_9
  | 10, _ => w50_10
  | 11, _ => w50_11
  | 12, _ => w50_12
  | 13, _ => w50_13
  | 14, _ => w50_14
  | 15, _ => w50_15
  | 16, _ => w50_16
  | 17, _ => w50_17
  | 18, _ => w50_18
  | 19, _ => w50_19
  | 20, _ => w50_20
  | 21, _ => w50_21
  | 22, _ => w50_22
  | 23, _ => w50_23
  | 24, _ => w50_24
  | 25, _ => w50_25
  | 26, _ => w50_26
  | 27, _ => w50_27
  | 28, _ => w50_28
  | 29, _ => w50_29
  | n + 30, h => absurd h (by omega)
theorem w50_o : Ck ζ (memS w50S w50A w50H w50V w50R) := splL_ok cm (fv64 ζ.1) w50_k w50_a
theorem v32_o : Ck ζ (memS v32S v32A v32H v32V v32R) := memS_ok (cm) v32
theorem v33_o : Ck ζ (memS v33S v33A v33H v33V v33R) := memS_ok (cm) v33
theorem v34_o : Ck ζ (memS v34S v34A v34H v34V v34R) := memS_ok (cm) v34
theorem v35_o : Ck ζ (memS v35S v35A v35H v35V v35R) := memS_ok (cm) v35
theorem v36_o : Ck ζ (memS v36S v36A v36H v36V v36R) := memS_ok (cm) v36
theorem v37_o : Ck ζ (memS v37S v37A v37H v37V v37R) := memS_ok (cm) v37
theorem v38_o : Ck ζ (memS v38S v38A v38H v38V v38R) := memS_ok (cm) v38
theorem v39_o : Ck ζ (memS v39S v39A v39H v39V v39R) := memS_ok (cm) v39
theorem v40_o : Ck ζ (memS v40S v40A v40H v40V v40R) := memS_ok (cm) v40
theorem v41_o : Ck ζ (memS v41S v41A v41H v41V v41R) := memS_ok (cm) v41
theorem v42_o : Ck ζ (memS v42S v42A v42H v42V v42R) := memS_ok (cm) v42
theorem w48_o : Ck ζ (memS w48S w48A w48H w48V w48R) := memS_ok (trimC_ok (calM_ok mixed progOk (orC_ok w49_o (orC_ok w50_o (orC_ok v32_o (orC_ok v33_o (orC_ok v34_o (orC_ok v35_o (orC_ok v36_o (orC_ok v37_o (orC_ok v38_o (orC_ok v39_o (orC_ok v40_o (orC_ok v41_o (orC_ok v42_o nat_ok))))))))))))) 60)) w48
theorem natk0 (hw0 : (Lit.int .i64 (ζ.1 0)).wf = true) (hw1 : (Lit.int .i64 (ζ.1 1)).wf = true) (hw3 : (Lit.int .i64 (ζ.1 3)).wf = true) (h64 : ζ.1 64 = pickV (ζ.1 0) ((30 : Nat) : Int)) (hb0 : pickV (ζ.1 0) ((30 : Nat) : Int) ≤ ((29 : Nat) : Int)) (h80 : ζ.1 80 = pickV (ζ.1 1) ((16 : Nat) : Int)) (hb1 : pickV (ζ.1 1) ((16 : Nat) : Int) ≤ ((15 : Nat) : Int)) (h96 : ζ.1 96 = pickV (ζ.1 3) ((10 : Nat) : Int)) (hc : pickV (ζ.1 3) ((10 : Nat) : Int) ≤ ((8 : Nat) : Int)) : Ck ζ natP0 :=
  orC_ok (psy hw0 h64 hb0) (orC_ok (rsy hw1 h80 hb1) (orC_ok (ysy hw3 h96 hc) (orC_ok alive_ok (orC_ok w0_o (orC_ok w1_o (orC_ok w3_o (orC_ok w4_o (orC_ok w7_o (orC_ok w10_o (orC_ok w11_o (orC_ok w13_o (orC_ok w15_o (orC_ok w19_o (orC_ok w23_o (orC_ok w34_o nat_ok)))))))))))))))
theorem natk1 (hw0 : (Lit.int .i64 (ζ.1 0)).wf = true) (hw1 : (Lit.int .i64 (ζ.1 1)).wf = true) (hw3 : (Lit.int .i64 (ζ.1 3)).wf = true) (h64 : ζ.1 64 = pickV (ζ.1 0) ((30 : Nat) : Int)) (hb0 : pickV (ζ.1 0) ((30 : Nat) : Int) ≤ ((29 : Nat) : Int)) (h80 : ζ.1 80 = pickV (ζ.1 1) ((16 : Nat) : Int)) (hb1 : pickV (ζ.1 1) ((16 : Nat) : Int) ≤ ((15 : Nat) : Int)) (hc : pickV (ζ.1 3) ((10 : Nat) : Int) = ((9 : Nat) : Int)) : Ck ζ natP1 :=
  orC_ok (psy hw0 h64 hb0) (orC_ok (rsy hw1 h80 hb1) (orC_ok (pick_ok (κ := kp Yt Tryz.prog ζ) (j := 3) (by decide +kernel) hw3 (by decide) (by decide) hc) (orC_ok alive_ok (orC_ok w0_o (orC_ok w1_o (orC_ok w3_o (orC_ok w4_o (orC_ok w7_o (orC_ok w10_o (orC_ok w37_o (orC_ok w39_o (orC_ok w41_o (orC_ok w43_o (orC_ok w46_o (orC_ok w48_o nat_ok)))))))))))))))
end
theorem PrarI : ∀ {vs : List Value}, areI [.i64, .i64, .u64, .i64] vs → ∃ p0 p1 p2 p3, vs = [.int .i64 p0, .int .i64 p1, .int .u64 p2, .int .i64 p3] ∧ (Lit.int .i64 p0).wf = true ∧ (Lit.int .i64 p1).wf = true ∧ (Lit.int .u64 p2).wf = true ∧ (Lit.int .i64 p3).wf = true
  | [_, _, _, _], ⟨⟨p0, e0, h0⟩, ⟨p1, e1, h1⟩, ⟨p2, e2, h2⟩, ⟨p3, e3, h3⟩, _⟩ => ⟨p0, p1, p2, p3, by rw [e0, e1, e2, e3], h0, h1, h2, h3⟩
  | [], h => h.elim
  | [_], h => h.2.elim
  | [_, _], h => h.2.2.elim
  | [_, _, _], h => h.2.2.2.elim
  | _ :: _ :: _ :: _ :: _ :: _, h => h.2.2.2.2.elim
theorem topSpawn_law : LawI Tryz.prog 8 [.i64, .i64, .u64, .i64] fun W => laidMetH Tryz.prog Rows.topSpawnRow.laid W := by
  intro W args hW hA
  obtain ⟨l, hl⟩ : ∃ l, l = args.toList := ⟨_, rfl⟩
  rw [← hl] at hA
  obtain ⟨p0, p1, p2, p3, hpq, hp0, hp1, hp2, hp3⟩ := PrarI hA
  subst hpq
  obtain ⟨ρ, hρ⟩ : ∃ ρ : Nat → Int, ρ = fun j => if j = 0 then p0 else if j = 1 then p1 else if j = 2 then p2 else if j = 64 then pickV p0 ((30 : Nat) : Int) else if j = 80 then pickV p1 ((16 : Nat) : Int) else if j = 96 then pickV p3 ((10 : Nat) : Int) else p3 := ⟨_, rfl⟩
  have hs := symA_is (Y := Yt) (P := Tryz.prog) (g := 0) (ρ := ρ) (β := 0) (j := 0) hA (fun i n hn => by
    rw [hρ]
    match i, hn with
    | 0, hn => simp [intsOf] at hn <;> simp [hn]
    | 1, hn => simp [intsOf] at hn <;> simp [hn]
    | 2, hn => simp [intsOf] at hn <;> simp [hn]
    | 3, hn => simp [intsOf] at hn <;> simp [hn]
    | i + 4, hn => simp [intsOf] at hn)
  rw [hl] at hs
  have r0 : ρ 0 = p0 := by rw [hρ] <;> rfl
  have r1 : ρ 1 = p1 := by rw [hρ] <;> rfl
  have r2 : ρ 2 = p2 := by rw [hρ] <;> rfl
  have r3 : ρ 3 = p3 := by rw [hρ] <;> rfl
  have r64 : ρ 64 = pickV p0 ((30 : Nat) : Int) := by rw [hρ] <;> rfl
  have r80 : ρ 80 = pickV p1 ((16 : Nat) : Int) := by rw [hρ] <;> rfl
  have r96 : ρ 96 = pickV p3 ((10 : Nat) : Int) := by rw [hρ] <;> rfl
  have h0 := tabs_met W hW 0 0 rfl
  have hlt : 0 < W.heap.size := by
    rcases Nat.lt_or_ge 0 W.heap.size with h1 | h1
    · exact h1
    · have : W.heap[0]? = Option.none := Array.getElem?_eq_none h1
      simp [World.cell?, this] at h0
  have hcell : ∀ (i : Nat) s, tabL[i]? = some s → W.cell? ⟨0, i, Option.none⟩ = some (s.tr (env0 Yt Tryz.prog 0 (ρ, 0))) := fun i s h => by
    have hm : tabL = tabZ.map (S.i .u8) := rfl
    rw [hm, List.getElem?_map] at h
    cases hz : tabZ[i]? with
    | none => rw [hz] at h; cases h
    | some n =>
      rw [hz] at h
      cases h
      rw [tabs_met W hW i n hz]
      have hn : n < 32 := by
        have hall : tabZ.all (fun n => decide (n < 32)) = true := by decide
        simpa using List.all_eq_true.1 hall n (List.mem_of_getElem? hz)
      simp only [S.tr]
      rw [vl_lt (by omega)]
  have fin : ∀ {nat : Cal}, CalOk Yt Tryz.prog (kp Yt Tryz.prog (ρ, 0)) nat → valB (calM prog nat 60 (.fn a8 []) (symA [.i64, .i64, .u64, .i64] 0) (heap0 tabL)) (.s (.b true)) = true → Calls Tryz.prog 8 args W fun e W' => e = .returned (.bool true) ∧ Still W W' := fun hN hr =>
    law_run mixed progOk hN (g := 0) rfl hlt hcell (by decide) hr hs.1 hs.2 rfl (by simp) rfl
  have hb0 : pickV p0 ((30 : Nat) : Int) ≤ ((29 : Nat) : Int) := by
    have := (pick_rg (a := p0) (b := ((30 : Nat) : Int)) (by decide)).2
    omega
  have hb1 : pickV p1 ((16 : Nat) : Int) ≤ ((15 : Nat) : Int) := by
    have := (pick_rg (a := p1) (b := ((16 : Nat) : Int)) (by decide)).2
    omega
  have hc : pickV p3 ((10 : Nat) : Int) ≤ ((8 : Nat) : Int) ∨ pickV p3 ((10 : Nat) : Int) = ((9 : Nat) : Int) := by
    have := (pick_rg (a := p3) (b := ((10 : Nat) : Int)) (by decide)).2
    omega
  rw [← r0] at hb0 hp0 r64
  rw [← r1] at hb1 hp1 r80
  rw [← r3] at hc hp3 r96
  rcases hc with hc | hc
  · exact fin (natk0 (ζ := (ρ, 0)) hp0 hp1 hp3 r64 hb0 r80 hb1 r96 hc) spw0
  · exact fin (natk1 (ζ := (ρ, 0)) hp0 hp1 hp3 r64 hb0 r80 hb1 hc) spw1
end Go.Proofs.YtebgbhgehnpahaaGreatDoor
