/- A part of the proof of the claim that the last text of this folder states. -/
import Derived.Test.YtebgbhgehnpahaaGreatDoorB17
import Derived.Test.YtebgbhgehnpahaaGreatDoorB28
import Derived.Test.YtebgbhgehnpahaaGreatDoorB29
import Derived.Test.YtebgbhgehnpahaaGreatDoorB32
import Derived.Test.YtebgbhgehnpahaaGreatDoorB33
import Derived.Test.YtebgbhgehnpahaaGreatDoorB34
import Derived.Test.YtebgbhgehnpahaaGreatDoorB35
import Derived.Test.YtebgbhgehnpahaaGreatDoorB36
import Derived.Test.YtebgbhgehnpahaaGreatDoorB37
import Derived.Test.YtebgbhgehnpahaaGreatDoorB38
import Derived.Test.YtebgbhgehnpahaaGreatDoorB39
import Derived.Test.YtebgbhgehnpahaaGreatDoorB40
import Derived.Test.YtebgbhgehnpahaaGreatDoorB41
import Derived.Test.YtebgbhgehnpahaaGreatDoorB42
import Derived.Test.YtebgbhgehnpahaaGreatDoorB43
import Derived.Test.YtebgbhgehnpahaaGreatDoorB44
import Derived.Test.YtebgbhgehnpahaaGreatDoorB45
import Derived.Test.YtebgbhgehnpahaaGreatDoorB46
namespace Go.Proofs.YtebgbhgehnpahaaGreatDoor
open Go.E
set_option linter.all false
set_option maxRecDepth 100000
section
variable {ζ : (Nat → Int) × Nat}
theorem m1 {s0 : S} {A : List V} {H : Hp} {v : V} {H' : Hp} (h : runB (calM prog nat 60 s0 A H) v H' = true) : CalOk Yt Tryz.prog (kp Yt Tryz.prog ζ) (memS s0 A H v H') := memS_ok (calM_ok mixed progOk nat_ok 60) h
theorem m2 {s0 : S} {A : List V} {H : Hp} {v : V} {H' : Hp} (h : runB (trimC (calM prog nat 60) s0 A H) v H' = true) : CalOk Yt Tryz.prog (kp Yt Tryz.prog ζ) (memS s0 A H v H') := memS_ok (trimC_ok (calM_ok mixed progOk nat_ok 60)) h
theorem alive_ok : CalOk Yt Tryz.prog (kp Yt Tryz.prog ζ) (memS fa0S fa0A fa0H fa0V fa0R) := memS_ok (trimC_ok (calM_ok mixed progOk (orC_ok (m2 fa4) nat_ok) 60)) fa0
theorem bsy (hw : (Lit.int .i64 (ζ.1 1)).wf = true) (h8 : ζ.1 8 = pickV (ζ.1 1) ((268435456 : Nat) : Int)) (hc : 1 ≤ pickV (ζ.1 1) ((268435456 : Nat) : Int)) : CalOk Yt Tryz.prog (kp Yt Tryz.prog ζ) (oraC (Pth.of 17) [.s (.i .i64 ((symN + 1 : Nat) : Int)), .s (.i .i64 (.ofNat 268435456))] (.s (.i .i64 (.ofNat 18907912675552290406400)))) :=
  pick_gen (κ := kp Yt Tryz.prog ζ) (j := 1) (by decide +kernel) hw (by decide) (by decide) fun e hκ => fld_val (j := 8) (by decide +kernel) (by decide +kernel) (by decide +kernel) (by decide +kernel) (by rw [hκ.2.1]; exact h8) hc (by
    have q2 := (pick_rg (a := ζ.1 1) (b := ((268435456 : Nat) : Int)) (by decide)).2
    have q3 : ((sBd 8 : Nat) : Int) = 268435455 := by decide +kernel
    exact (show pickV (ζ.1 1) ((268435456 : Nat) : Int) ≤ ((sBd 8 : Nat) : Int) by rw [q3]; omega))
theorem natk0_0 (hw : (Lit.int .i64 (ζ.1 0)).wf = true) (hw1 : (Lit.int .i64 (ζ.1 1)).wf = true) (hc : pickV (ζ.1 0) ((30 : Nat) : Int) = ((0 : Nat) : Int)) (hb : pickV (ζ.1 1) ((268435456 : Nat) : Int) = ((0 : Nat) : Int)) : CalOk Yt Tryz.prog (kp Yt Tryz.prog ζ) natB0_0 :=
  orC_ok (pick_ok (κ := kp Yt Tryz.prog ζ) (j := 0) (by decide +kernel) hw (by decide) (by decide) hc) (orC_ok (pick_ok (κ := kp Yt Tryz.prog ζ) (j := 1) (by decide +kernel) hw1 (by decide) (by decide) hb) (orC_ok alive_ok (orC_ok (m1 fb3) (orC_ok (m1 ga0_0) nat_ok))))
theorem natk0_1 (hw : (Lit.int .i64 (ζ.1 0)).wf = true) (hw1 : (Lit.int .i64 (ζ.1 1)).wf = true) (hc : pickV (ζ.1 0) ((30 : Nat) : Int) = ((0 : Nat) : Int)) (h8 : ζ.1 8 = pickV (ζ.1 1) ((268435456 : Nat) : Int)) (hb : 1 ≤ pickV (ζ.1 1) ((268435456 : Nat) : Int)) : CalOk Yt Tryz.prog (kp Yt Tryz.prog ζ) natB0_1 :=
  orC_ok (pick_ok (κ := kp Yt Tryz.prog ζ) (j := 0) (by decide +kernel) hw (by decide) (by decide) hc) (orC_ok (bsy hw1 h8 hb) (orC_ok alive_ok (orC_ok (m1 fb3) (orC_ok (m1 ga0_1) nat_ok))))
theorem natk1_0 (hw : (Lit.int .i64 (ζ.1 0)).wf = true) (hw1 : (Lit.int .i64 (ζ.1 1)).wf = true) (hc : pickV (ζ.1 0) ((30 : Nat) : Int) = ((1 : Nat) : Int)) (hb : pickV (ζ.1 1) ((268435456 : Nat) : Int) = ((0 : Nat) : Int)) : CalOk Yt Tryz.prog (kp Yt Tryz.prog ζ) natB1_0 :=
  orC_ok (pick_ok (κ := kp Yt Tryz.prog ζ) (j := 0) (by decide +kernel) hw (by decide) (by decide) hc) (orC_ok (pick_ok (κ := kp Yt Tryz.prog ζ) (j := 1) (by decide +kernel) hw1 (by decide) (by decide) hb) (orC_ok alive_ok (orC_ok (m1 fb3) (orC_ok (m1 ga1_0) nat_ok))))
theorem natk1_1 (hw : (Lit.int .i64 (ζ.1 0)).wf = true) (hw1 : (Lit.int .i64 (ζ.1 1)).wf = true) (hc : pickV (ζ.1 0) ((30 : Nat) : Int) = ((1 : Nat) : Int)) (h8 : ζ.1 8 = pickV (ζ.1 1) ((268435456 : Nat) : Int)) (hb : 1 ≤ pickV (ζ.1 1) ((268435456 : Nat) : Int)) : CalOk Yt Tryz.prog (kp Yt Tryz.prog ζ) natB1_1 :=
  orC_ok (pick_ok (κ := kp Yt Tryz.prog ζ) (j := 0) (by decide +kernel) hw (by decide) (by decide) hc) (orC_ok (bsy hw1 h8 hb) (orC_ok alive_ok (orC_ok (m1 fb3) (orC_ok (m1 ga1_1) nat_ok))))
theorem natk2_0 (hw : (Lit.int .i64 (ζ.1 0)).wf = true) (hw1 : (Lit.int .i64 (ζ.1 1)).wf = true) (hc : pickV (ζ.1 0) ((30 : Nat) : Int) = ((2 : Nat) : Int)) (hb : pickV (ζ.1 1) ((268435456 : Nat) : Int) = ((0 : Nat) : Int)) : CalOk Yt Tryz.prog (kp Yt Tryz.prog ζ) natB2_0 :=
  orC_ok (pick_ok (κ := kp Yt Tryz.prog ζ) (j := 0) (by decide +kernel) hw (by decide) (by decide) hc) (orC_ok (pick_ok (κ := kp Yt Tryz.prog ζ) (j := 1) (by decide +kernel) hw1 (by decide) (by decide) hb) (orC_ok alive_ok (orC_ok (m1 fb3) (orC_ok (m1 ga2_0) nat_ok))))
theorem natk2_1 (hw : (Lit.int .i64 (ζ.1 0)).wf = true) (hw1 : (Lit.int .i64 (ζ.1 1)).wf = true) (hc : pickV (ζ.1 0) ((30 : Nat) : Int) = ((2 : Nat) : Int)) (h8 : ζ.1 8 = pickV (ζ.1 1) ((268435456 : Nat) : Int)) (hb : 1 ≤ pickV (ζ.1 1) ((268435456 : Nat) : Int)) : CalOk Yt Tryz.prog (kp Yt Tryz.prog ζ) natB2_1 :=
  orC_ok (pick_ok (κ := kp Yt Tryz.prog ζ) (j := 0) (by decide +kernel) hw (by decide) (by decide) hc) (orC_ok (bsy hw1 h8 hb) (orC_ok alive_ok (orC_ok (m1 fb3) (orC_ok (m1 ga2_1) nat_ok))))
theorem natk3_0 (hw : (Lit.int .i64 (ζ.1 0)).wf = true) (hw1 : (Lit.int .i64 (ζ.1 1)).wf = true) (hc : pickV (ζ.1 0) ((30 : Nat) : Int) = ((3 : Nat) : Int)) (hb : pickV (ζ.1 1) ((268435456 : Nat) : Int) = ((0 : Nat) : Int)) : CalOk Yt Tryz.prog (kp Yt Tryz.prog ζ) natB3_0 :=
  orC_ok (pick_ok (κ := kp Yt Tryz.prog ζ) (j := 0) (by decide +kernel) hw (by decide) (by decide) hc) (orC_ok (pick_ok (κ := kp Yt Tryz.prog ζ) (j := 1) (by decide +kernel) hw1 (by decide) (by decide) hb) (orC_ok alive_ok (orC_ok (m1 fb3) (orC_ok (m1 ga3_0) nat_ok))))
theorem natk3_1 (hw : (Lit.int .i64 (ζ.1 0)).wf = true) (hw1 : (Lit.int .i64 (ζ.1 1)).wf = true) (hc : pickV (ζ.1 0) ((30 : Nat) : Int) = ((3 : Nat) : Int)) (h8 : ζ.1 8 = pickV (ζ.1 1) ((268435456 : Nat) : Int)) (hb : 1 ≤ pickV (ζ.1 1) ((268435456 : Nat) : Int)) : CalOk Yt Tryz.prog (kp Yt Tryz.prog ζ) natB3_1 :=
  orC_ok (pick_ok (κ := kp Yt Tryz.prog ζ) (j := 0) (by decide +kernel) hw (by decide) (by decide) hc) (orC_ok (bsy hw1 h8 hb) (orC_ok alive_ok (orC_ok (m1 fb3) (orC_ok (m1 ga3_1) nat_ok))))
theorem natk4_0 (hw : (Lit.int .i64 (ζ.1 0)).wf = true) (hw1 : (Lit.int .i64 (ζ.1 1)).wf = true) (hc : pickV (ζ.1 0) ((30 : Nat) : Int) = ((4 : Nat) : Int)) (hb : pickV (ζ.1 1) ((268435456 : Nat) : Int) = ((0 : Nat) : Int)) : CalOk Yt Tryz.prog (kp Yt Tryz.prog ζ) natB4_0 :=
  orC_ok (pick_ok (κ := kp Yt Tryz.prog ζ) (j := 0) (by decide +kernel) hw (by decide) (by decide) hc) (orC_ok (pick_ok (κ := kp Yt Tryz.prog ζ) (j := 1) (by decide +kernel) hw1 (by decide) (by decide) hb) (orC_ok alive_ok (orC_ok (m1 fb3) (orC_ok (m1 ga4_0) nat_ok))))
theorem natk4_1 (hw : (Lit.int .i64 (ζ.1 0)).wf = true) (hw1 : (Lit.int .i64 (ζ.1 1)).wf = true) (hc : pickV (ζ.1 0) ((30 : Nat) : Int) = ((4 : Nat) : Int)) (h8 : ζ.1 8 = pickV (ζ.1 1) ((268435456 : Nat) : Int)) (hb : 1 ≤ pickV (ζ.1 1) ((268435456 : Nat) : Int)) : CalOk Yt Tryz.prog (kp Yt Tryz.prog ζ) natB4_1 :=
  orC_ok (pick_ok (κ := kp Yt Tryz.prog ζ) (j := 0) (by decide +kernel) hw (by decide) (by decide) hc) (orC_ok (bsy hw1 h8 hb) (orC_ok alive_ok (orC_ok (m1 fb3) (orC_ok (m1 ga4_1) nat_ok))))
theorem natk5_0 (hw : (Lit.int .i64 (ζ.1 0)).wf = true) (hw1 : (Lit.int .i64 (ζ.1 1)).wf = true) (hc : pickV (ζ.1 0) ((30 : Nat) : Int) = ((5 : Nat) : Int)) (hb : pickV (ζ.1 1) ((268435456 : Nat) : Int) = ((0 : Nat) : Int)) : CalOk Yt Tryz.prog (kp Yt Tryz.prog ζ) natB5_0 :=
  orC_ok (pick_ok (κ := kp Yt Tryz.prog ζ) (j := 0) (by decide +kernel) hw (by decide) (by decide) hc) (orC_ok (pick_ok (κ := kp Yt Tryz.prog ζ) (j := 1) (by decide +kernel) hw1 (by decide) (by decide) hb) (orC_ok alive_ok (orC_ok (m1 fb3) (orC_ok (m1 ga5_0) nat_ok))))
theorem natk5_1 (hw : (Lit.int .i64 (ζ.1 0)).wf = true) (hw1 : (Lit.int .i64 (ζ.1 1)).wf = true) (hc : pickV (ζ.1 0) ((30 : Nat) : Int) = ((5 : Nat) : Int)) (h8 : ζ.1 8 = pickV (ζ.1 1) ((268435456 : Nat) : Int)) (hb : 1 ≤ pickV (ζ.1 1) ((268435456 : Nat) : Int)) : CalOk Yt Tryz.prog (kp Yt Tryz.prog ζ) natB5_1 :=
  orC_ok (pick_ok (κ := kp Yt Tryz.prog ζ) (j := 0) (by decide +kernel) hw (by decide) (by decide) hc) (orC_ok (bsy hw1 h8 hb) (orC_ok alive_ok (orC_ok (m1 fb3) (orC_ok (m1 ga5_1) nat_ok))))
theorem natk6_0 (hw : (Lit.int .i64 (ζ.1 0)).wf = true) (hw1 : (Lit.int .i64 (ζ.1 1)).wf = true) (hc : pickV (ζ.1 0) ((30 : Nat) : Int) = ((6 : Nat) : Int)) (hb : pickV (ζ.1 1) ((268435456 : Nat) : Int) = ((0 : Nat) : Int)) : CalOk Yt Tryz.prog (kp Yt Tryz.prog ζ) natB6_0 :=
  orC_ok (pick_ok (κ := kp Yt Tryz.prog ζ) (j := 0) (by decide +kernel) hw (by decide) (by decide) hc) (orC_ok (pick_ok (κ := kp Yt Tryz.prog ζ) (j := 1) (by decide +kernel) hw1 (by decide) (by decide) hb) (orC_ok alive_ok (orC_ok (m1 fb3) (orC_ok (m1 ga6_0) nat_ok))))
theorem natk6_1 (hw : (Lit.int .i64 (ζ.1 0)).wf = true) (hw1 : (Lit.int .i64 (ζ.1 1)).wf = true) (hc : pickV (ζ.1 0) ((30 : Nat) : Int) = ((6 : Nat) : Int)) (h8 : ζ.1 8 = pickV (ζ.1 1) ((268435456 : Nat) : Int)) (hb : 1 ≤ pickV (ζ.1 1) ((268435456 : Nat) : Int)) : CalOk Yt Tryz.prog (kp Yt Tryz.prog ζ) natB6_1 :=
  orC_ok (pick_ok (κ := kp Yt Tryz.prog ζ) (j := 0) (by decide +kernel) hw (by decide) (by decide) hc) (orC_ok (bsy hw1 h8 hb) (orC_ok alive_ok (orC_ok (m1 fb3) (orC_ok (m1 ga6_1) nat_ok))))
theorem natk7_0 (hw : (Lit.int .i64 (ζ.1 0)).wf = true) (hw1 : (Lit.int .i64 (ζ.1 1)).wf = true) (hc : pickV (ζ.1 0) ((30 : Nat) : Int) = ((7 : Nat) : Int)) (hb : pickV (ζ.1 1) ((268435456 : Nat) : Int) = ((0 : Nat) : Int)) : CalOk Yt Tryz.prog (kp Yt Tryz.prog ζ) natB7_0 :=
  orC_ok (pick_ok (κ := kp Yt Tryz.prog ζ) (j := 0) (by decide +kernel) hw (by decide) (by decide) hc) (orC_ok (pick_ok (κ := kp Yt Tryz.prog ζ) (j := 1) (by decide +kernel) hw1 (by decide) (by decide) hb) (orC_ok alive_ok (orC_ok (m1 fb3) (orC_ok (m1 ga7_0) nat_ok))))
theorem natk7_1 (hw : (Lit.int .i64 (ζ.1 0)).wf = true) (hw1 : (Lit.int .i64 (ζ.1 1)).wf = true) (hc : pickV (ζ.1 0) ((30 : Nat) : Int) = ((7 : Nat) : Int)) (h8 : ζ.1 8 = pickV (ζ.1 1) ((268435456 : Nat) : Int)) (hb : 1 ≤ pickV (ζ.1 1) ((268435456 : Nat) : Int)) : CalOk Yt Tryz.prog (kp Yt Tryz.prog ζ) natB7_1 :=
  orC_ok (pick_ok (κ := kp Yt Tryz.prog ζ) (j := 0) (by decide +kernel) hw (by decide) (by decide) hc) (orC_ok (bsy hw1 h8 hb) (orC_ok alive_ok (orC_ok (m1 fb3) (orC_ok (m1 ga7_1) nat_ok))))
theorem natk8_0 (hw : (Lit.int .i64 (ζ.1 0)).wf = true) (hw1 : (Lit.int .i64 (ζ.1 1)).wf = true) (hc : pickV (ζ.1 0) ((30 : Nat) : Int) = ((8 : Nat) : Int)) (hb : pickV (ζ.1 1) ((268435456 : Nat) : Int) = ((0 : Nat) : Int)) : CalOk Yt Tryz.prog (kp Yt Tryz.prog ζ) natB8_0 :=
  orC_ok (pick_ok (κ := kp Yt Tryz.prog ζ) (j := 0) (by decide +kernel) hw (by decide) (by decide) hc) (orC_ok (pick_ok (κ := kp Yt Tryz.prog ζ) (j := 1) (by decide +kernel) hw1 (by decide) (by decide) hb) (orC_ok alive_ok (orC_ok (m1 fb3) (orC_ok (m1 ga8_0) nat_ok))))
theorem natk8_1 (hw : (Lit.int .i64 (ζ.1 0)).wf = true) (hw1 : (Lit.int .i64 (ζ.1 1)).wf = true) (hc : pickV (ζ.1 0) ((30 : Nat) : Int) = ((8 : Nat) : Int)) (h8 : ζ.1 8 = pickV (ζ.1 1) ((268435456 : Nat) : Int)) (hb : 1 ≤ pickV (ζ.1 1) ((268435456 : Nat) : Int)) : CalOk Yt Tryz.prog (kp Yt Tryz.prog ζ) natB8_1 :=
  orC_ok (pick_ok (κ := kp Yt Tryz.prog ζ) (j := 0) (by decide +kernel) hw (by decide) (by decide) hc) (orC_ok (bsy hw1 h8 hb) (orC_ok alive_ok (orC_ok (m1 fb3) (orC_ok (m1 ga8_1) nat_ok))))
theorem natk9_0 (hw : (Lit.int .i64 (ζ.1 0)).wf = true) (hw1 : (Lit.int .i64 (ζ.1 1)).wf = true) (hc : pickV (ζ.1 0) ((30 : Nat) : Int) = ((9 : Nat) : Int)) (hb : pickV (ζ.1 1) ((268435456 : Nat) : Int) = ((0 : Nat) : Int)) : CalOk Yt Tryz.prog (kp Yt Tryz.prog ζ) natB9_0 :=
  orC_ok (pick_ok (κ := kp Yt Tryz.prog ζ) (j := 0) (by decide +kernel) hw (by decide) (by decide) hc) (orC_ok (pick_ok (κ := kp Yt Tryz.prog ζ) (j := 1) (by decide +kernel) hw1 (by decide) (by decide) hb) (orC_ok alive_ok (orC_ok (m1 fb3) (orC_ok (m1 ga9_0) nat_ok))))
theorem natk9_1 (hw : (Lit.int .i64 (ζ.1 0)).wf = true) (hw1 : (Lit.int .i64 (ζ.1 1)).wf = true) (hc : pickV (ζ.1 0) ((30 : Nat) : Int) = ((9 : Nat) : Int)) (h8 : ζ.1 8 = pickV (ζ.1 1) ((268435456 : Nat) : Int)) (hb : 1 ≤ pickV (ζ.1 1) ((268435456 : Nat) : Int)) : CalOk Yt Tryz.prog (kp Yt Tryz.prog ζ) natB9_1 :=
  orC_ok (pick_ok (κ := kp Yt Tryz.prog ζ) (j := 0) (by decide +kernel) hw (by decide) (by decide) hc) (orC_ok (bsy hw1 h8 hb) (orC_ok alive_ok (orC_ok (m1 fb3) (orC_ok (m1 ga9_1) nat_ok))))
theorem natk10_0 (hw : (Lit.int .i64 (ζ.1 0)).wf = true) (hw1 : (Lit.int .i64 (ζ.1 1)).wf = true) (hc : pickV (ζ.1 0) ((30 : Nat) : Int) = ((10 : Nat) : Int)) (hb : pickV (ζ.1 1) ((268435456 : Nat) : Int) = ((0 : Nat) : Int)) : CalOk Yt Tryz.prog (kp Yt Tryz.prog ζ) natB10_0 :=
  orC_ok (pick_ok (κ := kp Yt Tryz.prog ζ) (j := 0) (by decide +kernel) hw (by decide) (by decide) hc) (orC_ok (pick_ok (κ := kp Yt Tryz.prog ζ) (j := 1) (by decide +kernel) hw1 (by decide) (by decide) hb) (orC_ok alive_ok (orC_ok (m1 fb3) (orC_ok (m1 ga10_0) nat_ok))))
theorem natk10_1 (hw : (Lit.int .i64 (ζ.1 0)).wf = true) (hw1 : (Lit.int .i64 (ζ.1 1)).wf = true) (hc : pickV (ζ.1 0) ((30 : Nat) : Int) = ((10 : Nat) : Int)) (h8 : ζ.1 8 = pickV (ζ.1 1) ((268435456 : Nat) : Int)) (hb : 1 ≤ pickV (ζ.1 1) ((268435456 : Nat) : Int)) : CalOk Yt Tryz.prog (kp Yt Tryz.prog ζ) natB10_1 :=
  orC_ok (pick_ok (κ := kp Yt Tryz.prog ζ) (j := 0) (by decide +kernel) hw (by decide) (by decide) hc) (orC_ok (bsy hw1 h8 hb) (orC_ok alive_ok (orC_ok (m1 fb3) (orC_ok (m1 ga10_1) nat_ok))))
theorem natk11_0 (hw : (Lit.int .i64 (ζ.1 0)).wf = true) (hw1 : (Lit.int .i64 (ζ.1 1)).wf = true) (hc : pickV (ζ.1 0) ((30 : Nat) : Int) = ((11 : Nat) : Int)) (hb : pickV (ζ.1 1) ((268435456 : Nat) : Int) = ((0 : Nat) : Int)) : CalOk Yt Tryz.prog (kp Yt Tryz.prog ζ) natB11_0 :=
  orC_ok (pick_ok (κ := kp Yt Tryz.prog ζ) (j := 0) (by decide +kernel) hw (by decide) (by decide) hc) (orC_ok (pick_ok (κ := kp Yt Tryz.prog ζ) (j := 1) (by decide +kernel) hw1 (by decide) (by decide) hb) (orC_ok alive_ok (orC_ok (m1 fb3) (orC_ok (m1 ga11_0) nat_ok))))
theorem natk11_1 (hw : (Lit.int .i64 (ζ.1 0)).wf = true) (hw1 : (Lit.int .i64 (ζ.1 1)).wf = true) (hc : pickV (ζ.1 0) ((30 : Nat) : Int) = ((11 : Nat) : Int)) (h8 : ζ.1 8 = pickV (ζ.1 1) ((268435456 : Nat) : Int)) (hb : 1 ≤ pickV (ζ.1 1) ((268435456 : Nat) : Int)) : CalOk Yt Tryz.prog (kp Yt Tryz.prog ζ) natB11_1 :=
  orC_ok (pick_ok (κ := kp Yt Tryz.prog ζ) (j := 0) (by decide +kernel) hw (by decide) (by decide) hc) (orC_ok (bsy hw1 h8 hb) (orC_ok alive_ok (orC_ok (m1 fb3) (orC_ok (m1 ga11_1) nat_ok))))
theorem natk12_0 (hw : (Lit.int .i64 (ζ.1 0)).wf = true) (hw1 : (Lit.int .i64 (ζ.1 1)).wf = true) (hc : pickV (ζ.1 0) ((30 : Nat) : Int) = ((12 : Nat) : Int)) (hb : pickV (ζ.1 1) ((268435456 : Nat) : Int) = ((0 : Nat) : Int)) : CalOk Yt Tryz.prog (kp Yt Tryz.prog ζ) natB12_0 :=
  orC_ok (pick_ok (κ := kp Yt Tryz.prog ζ) (j := 0) (by decide +kernel) hw (by decide) (by decide) hc) (orC_ok (pick_ok (κ := kp Yt Tryz.prog ζ) (j := 1) (by decide +kernel) hw1 (by decide) (by decide) hb) (orC_ok alive_ok (orC_ok (m1 fb3) (orC_ok (m1 ga12_0) nat_ok))))
theorem natk12_1 (hw : (Lit.int .i64 (ζ.1 0)).wf = true) (hw1 : (Lit.int .i64 (ζ.1 1)).wf = true) (hc : pickV (ζ.1 0) ((30 : Nat) : Int) = ((12 : Nat) : Int)) (h8 : ζ.1 8 = pickV (ζ.1 1) ((268435456 : Nat) : Int)) (hb : 1 ≤ pickV (ζ.1 1) ((268435456 : Nat) : Int)) : CalOk Yt Tryz.prog (kp Yt Tryz.prog ζ) natB12_1 :=
  orC_ok (pick_ok (κ := kp Yt Tryz.prog ζ) (j := 0) (by decide +kernel) hw (by decide) (by decide) hc) (orC_ok (bsy hw1 h8 hb) (orC_ok alive_ok (orC_ok (m1 fb3) (orC_ok (m1 ga12_1) nat_ok))))
theorem natk13_0 (hw : (Lit.int .i64 (ζ.1 0)).wf = true) (hw1 : (Lit.int .i64 (ζ.1 1)).wf = true) (hc : pickV (ζ.1 0) ((30 : Nat) : Int) = ((13 : Nat) : Int)) (hb : pickV (ζ.1 1) ((268435456 : Nat) : Int) = ((0 : Nat) : Int)) : CalOk Yt Tryz.prog (kp Yt Tryz.prog ζ) natB13_0 :=
  orC_ok (pick_ok (κ := kp Yt Tryz.prog ζ) (j := 0) (by decide +kernel) hw (by decide) (by decide) hc) (orC_ok (pick_ok (κ := kp Yt Tryz.prog ζ) (j := 1) (by decide +kernel) hw1 (by decide) (by decide) hb) (orC_ok alive_ok (orC_ok (m1 fb3) (orC_ok (m1 ga13_0) nat_ok))))
theorem natk13_1 (hw : (Lit.int .i64 (ζ.1 0)).wf = true) (hw1 : (Lit.int .i64 (ζ.1 1)).wf = true) (hc : pickV (ζ.1 0) ((30 : Nat) : Int) = ((13 : Nat) : Int)) (h8 : ζ.1 8 = pickV (ζ.1 1) ((268435456 : Nat) : Int)) (hb : 1 ≤ pickV (ζ.1 1) ((268435456 : Nat) : Int)) : CalOk Yt Tryz.prog (kp Yt Tryz.prog ζ) natB13_1 :=
  orC_ok (pick_ok (κ := kp Yt Tryz.prog ζ) (j := 0) (by decide +kernel) hw (by decide) (by decide) hc) (orC_ok (bsy hw1 h8 hb) (orC_ok alive_ok (orC_ok (m1 fb3) (orC_ok (m1 ga13_1) nat_ok))))
theorem natk14_0 (hw : (Lit.int .i64 (ζ.1 0)).wf = true) (hw1 : (Lit.int .i64 (ζ.1 1)).wf = true) (hc : pickV (ζ.1 0) ((30 : Nat) : Int) = ((14 : Nat) : Int)) (hb : pickV (ζ.1 1) ((268435456 : Nat) : Int) = ((0 : Nat) : Int)) : CalOk Yt Tryz.prog (kp Yt Tryz.prog ζ) natB14_0 :=
  orC_ok (pick_ok (κ := kp Yt Tryz.prog ζ) (j := 0) (by decide +kernel) hw (by decide) (by decide) hc) (orC_ok (pick_ok (κ := kp Yt Tryz.prog ζ) (j := 1) (by decide +kernel) hw1 (by decide) (by decide) hb) (orC_ok alive_ok (orC_ok (m1 fb3) (orC_ok (m1 ga14_0) nat_ok))))
theorem natk14_1 (hw : (Lit.int .i64 (ζ.1 0)).wf = true) (hw1 : (Lit.int .i64 (ζ.1 1)).wf = true) (hc : pickV (ζ.1 0) ((30 : Nat) : Int) = ((14 : Nat) : Int)) (h8 : ζ.1 8 = pickV (ζ.1 1) ((268435456 : Nat) : Int)) (hb : 1 ≤ pickV (ζ.1 1) ((268435456 : Nat) : Int)) : CalOk Yt Tryz.prog (kp Yt Tryz.prog ζ) natB14_1 :=
  orC_ok (pick_ok (κ := kp Yt Tryz.prog ζ) (j := 0) (by decide +kernel) hw (by decide) (by decide) hc) (orC_ok (bsy hw1 h8 hb) (orC_ok alive_ok (orC_ok (m1 fb3) (orC_ok (m1 ga14_1) nat_ok))))
theorem natk15_0 (hw : (Lit.int .i64 (ζ.1 0)).wf = true) (hw1 : (Lit.int .i64 (ζ.1 1)).wf = true) (hc : pickV (ζ.1 0) ((30 : Nat) : Int) = ((15 : Nat) : Int)) (hb : pickV (ζ.1 1) ((268435456 : Nat) : Int) = ((0 : Nat) : Int)) : CalOk Yt Tryz.prog (kp Yt Tryz.prog ζ) natB15_0 :=
  orC_ok (pick_ok (κ := kp Yt Tryz.prog ζ) (j := 0) (by decide +kernel) hw (by decide) (by decide) hc) (orC_ok (pick_ok (κ := kp Yt Tryz.prog ζ) (j := 1) (by decide +kernel) hw1 (by decide) (by decide) hb) (orC_ok alive_ok (orC_ok (m1 fb3) (orC_ok (m1 ga15_0) nat_ok))))
theorem natk15_1 (hw : (Lit.int .i64 (ζ.1 0)).wf = true) (hw1 : (Lit.int .i64 (ζ.1 1)).wf = true) (hc : pickV (ζ.1 0) ((30 : Nat) : Int) = ((15 : Nat) : Int)) (h8 : ζ.1 8 = pickV (ζ.1 1) ((268435456 : Nat) : Int)) (hb : 1 ≤ pickV (ζ.1 1) ((268435456 : Nat) : Int)) : CalOk Yt Tryz.prog (kp Yt Tryz.prog ζ) natB15_1 :=
  orC_ok (pick_ok (κ := kp Yt Tryz.prog ζ) (j := 0) (by decide +kernel) hw (by decide) (by decide) hc) (orC_ok (bsy hw1 h8 hb) (orC_ok alive_ok (orC_ok (m1 fb3) (orC_ok (m1 ga15_1) nat_ok))))
theorem natk16_0 (hw : (Lit.int .i64 (ζ.1 0)).wf = true) (hw1 : (Lit.int .i64 (ζ.1 1)).wf = true) (hc : pickV (ζ.1 0) ((30 : Nat) : Int) = ((16 : Nat) : Int)) (hb : pickV (ζ.1 1) ((268435456 : Nat) : Int) = ((0 : Nat) : Int)) : CalOk Yt Tryz.prog (kp Yt Tryz.prog ζ) natB16_0 :=
  orC_ok (pick_ok (κ := kp Yt Tryz.prog ζ) (j := 0) (by decide +kernel) hw (by decide) (by decide) hc) (orC_ok (pick_ok (κ := kp Yt Tryz.prog ζ) (j := 1) (by decide +kernel) hw1 (by decide) (by decide) hb) (orC_ok alive_ok (orC_ok (m1 fb3) (orC_ok (m1 ga16_0) nat_ok))))
theorem natk16_1 (hw : (Lit.int .i64 (ζ.1 0)).wf = true) (hw1 : (Lit.int .i64 (ζ.1 1)).wf = true) (hc : pickV (ζ.1 0) ((30 : Nat) : Int) = ((16 : Nat) : Int)) (h8 : ζ.1 8 = pickV (ζ.1 1) ((268435456 : Nat) : Int)) (hb : 1 ≤ pickV (ζ.1 1) ((268435456 : Nat) : Int)) : CalOk Yt Tryz.prog (kp Yt Tryz.prog ζ) natB16_1 :=
  orC_ok (pick_ok (κ := kp Yt Tryz.prog ζ) (j := 0) (by decide +kernel) hw (by decide) (by decide) hc) (orC_ok (bsy hw1 h8 hb) (orC_ok alive_ok (orC_ok (m1 fb3) (orC_ok (m1 ga16_1) nat_ok))))
theorem natk17_0 (hw : (Lit.int .i64 (ζ.1 0)).wf = true) (hw1 : (Lit.int .i64 (ζ.1 1)).wf = true) (hc : pickV (ζ.1 0) ((30 : Nat) : Int) = ((17 : Nat) : Int)) (hb : pickV (ζ.1 1) ((268435456 : Nat) : Int) = ((0 : Nat) : Int)) : CalOk Yt Tryz.prog (kp Yt Tryz.prog ζ) natB17_0 :=
  orC_ok (pick_ok (κ := kp Yt Tryz.prog ζ) (j := 0) (by decide +kernel) hw (by decide) (by decide) hc) (orC_ok (pick_ok (κ := kp Yt Tryz.prog ζ) (j := 1) (by decide +kernel) hw1 (by decide) (by decide) hb) (orC_ok alive_ok (orC_ok (m1 fb3) (orC_ok (m1 ga17_0) nat_ok))))
theorem natk17_1 (hw : (Lit.int .i64 (ζ.1 0)).wf = true) (hw1 : (Lit.int .i64 (ζ.1 1)).wf = true) (hc : pickV (ζ.1 0) ((30 : Nat) : Int) = ((17 : Nat) : Int)) (h8 : ζ.1 8 = pickV (ζ.1 1) ((268435456 : Nat) : Int)) (hb : 1 ≤ pickV (ζ.1 1) ((268435456 : Nat) : Int)) : CalOk Yt Tryz.prog (kp Yt Tryz.prog ζ) natB17_1 :=
  orC_ok (pick_ok (κ := kp Yt Tryz.prog ζ) (j := 0) (by decide +kernel) hw (by decide) (by decide) hc) (orC_ok (bsy hw1 h8 hb) (orC_ok alive_ok (orC_ok (m1 fb3) (orC_ok (m1 ga17_1) nat_ok))))
theorem natk18_0 (hw : (Lit.int .i64 (ζ.1 0)).wf = true) (hw1 : (Lit.int .i64 (ζ.1 1)).wf = true) (hc : pickV (ζ.1 0) ((30 : Nat) : Int) = ((18 : Nat) : Int)) (hb : pickV (ζ.1 1) ((268435456 : Nat) : Int) = ((0 : Nat) : Int)) : CalOk Yt Tryz.prog (kp Yt Tryz.prog ζ) natB18_0 :=
  orC_ok (pick_ok (κ := kp Yt Tryz.prog ζ) (j := 0) (by decide +kernel) hw (by decide) (by decide) hc) (orC_ok (pick_ok (κ := kp Yt Tryz.prog ζ) (j := 1) (by decide +kernel) hw1 (by decide) (by decide) hb) (orC_ok alive_ok (orC_ok (m1 fb3) (orC_ok (m1 ga18_0) nat_ok))))
theorem natk18_1 (hw : (Lit.int .i64 (ζ.1 0)).wf = true) (hw1 : (Lit.int .i64 (ζ.1 1)).wf = true) (hc : pickV (ζ.1 0) ((30 : Nat) : Int) = ((18 : Nat) : Int)) (h8 : ζ.1 8 = pickV (ζ.1 1) ((268435456 : Nat) : Int)) (hb : 1 ≤ pickV (ζ.1 1) ((268435456 : Nat) : Int)) : CalOk Yt Tryz.prog (kp Yt Tryz.prog ζ) natB18_1 :=
  orC_ok (pick_ok (κ := kp Yt Tryz.prog ζ) (j := 0) (by decide +kernel) hw (by decide) (by decide) hc) (orC_ok (bsy hw1 h8 hb) (orC_ok alive_ok (orC_ok (m1 fb3) (orC_ok (m1 ga18_1) nat_ok))))
theorem natk19_0 (hw : (Lit.int .i64 (ζ.1 0)).wf = true) (hw1 : (Lit.int .i64 (ζ.1 1)).wf = true) (hc : pickV (ζ.1 0) ((30 : Nat) : Int) = ((19 : Nat) : Int)) (hb : pickV (ζ.1 1) ((268435456 : Nat) : Int) = ((0 : Nat) : Int)) : CalOk Yt Tryz.prog (kp Yt Tryz.prog ζ) natB19_0 :=
  orC_ok (pick_ok (κ := kp Yt Tryz.prog ζ) (j := 0) (by decide +kernel) hw (by decide) (by decide) hc) (orC_ok (pick_ok (κ := kp Yt Tryz.prog ζ) (j := 1) (by decide +kernel) hw1 (by decide) (by decide) hb) (orC_ok alive_ok (orC_ok (m1 fb3) (orC_ok (m1 ga19_0) nat_ok))))
theorem natk19_1 (hw : (Lit.int .i64 (ζ.1 0)).wf = true) (hw1 : (Lit.int .i64 (ζ.1 1)).wf = true) (hc : pickV (ζ.1 0) ((30 : Nat) : Int) = ((19 : Nat) : Int)) (h8 : ζ.1 8 = pickV (ζ.1 1) ((268435456 : Nat) : Int)) (hb : 1 ≤ pickV (ζ.1 1) ((268435456 : Nat) : Int)) : CalOk Yt Tryz.prog (kp Yt Tryz.prog ζ) natB19_1 :=
  orC_ok (pick_ok (κ := kp Yt Tryz.prog ζ) (j := 0) (by decide +kernel) hw (by decide) (by decide) hc) (orC_ok (bsy hw1 h8 hb) (orC_ok alive_ok (orC_ok (m1 fb3) (orC_ok (m1 ga19_1) nat_ok))))
theorem natk20_0 (hw : (Lit.int .i64 (ζ.1 0)).wf = true) (hw1 : (Lit.int .i64 (ζ.1 1)).wf = true) (hc : pickV (ζ.1 0) ((30 : Nat) : Int) = ((20 : Nat) : Int)) (hb : pickV (ζ.1 1) ((268435456 : Nat) : Int) = ((0 : Nat) : Int)) : CalOk Yt Tryz.prog (kp Yt Tryz.prog ζ) natB20_0 :=
  orC_ok (pick_ok (κ := kp Yt Tryz.prog ζ) (j := 0) (by decide +kernel) hw (by decide) (by decide) hc) (orC_ok (pick_ok (κ := kp Yt Tryz.prog ζ) (j := 1) (by decide +kernel) hw1 (by decide) (by decide) hb) (orC_ok alive_ok (orC_ok (m1 fb3) (orC_ok (m1 ga20_0) nat_ok))))
theorem natk20_1 (hw : (Lit.int .i64 (ζ.1 0)).wf = true) (hw1 : (Lit.int .i64 (ζ.1 1)).wf = true) (hc : pickV (ζ.1 0) ((30 : Nat) : Int) = ((20 : Nat) : Int)) (h8 : ζ.1 8 = pickV (ζ.1 1) ((268435456 : Nat) : Int)) (hb : 1 ≤ pickV (ζ.1 1) ((268435456 : Nat) : Int)) : CalOk Yt Tryz.prog (kp Yt Tryz.prog ζ) natB20_1 :=
  orC_ok (pick_ok (κ := kp Yt Tryz.prog ζ) (j := 0) (by decide +kernel) hw (by decide) (by decide) hc) (orC_ok (bsy hw1 h8 hb) (orC_ok alive_ok (orC_ok (m1 fb3) (orC_ok (m1 ga20_1) nat_ok))))
theorem natk21_0 (hw : (Lit.int .i64 (ζ.1 0)).wf = true) (hw1 : (Lit.int .i64 (ζ.1 1)).wf = true) (hc : pickV (ζ.1 0) ((30 : Nat) : Int) = ((21 : Nat) : Int)) (hb : pickV (ζ.1 1) ((268435456 : Nat) : Int) = ((0 : Nat) : Int)) : CalOk Yt Tryz.prog (kp Yt Tryz.prog ζ) natB21_0 :=
  orC_ok (pick_ok (κ := kp Yt Tryz.prog ζ) (j := 0) (by decide +kernel) hw (by decide) (by decide) hc) (orC_ok (pick_ok (κ := kp Yt Tryz.prog ζ) (j := 1) (by decide +kernel) hw1 (by decide) (by decide) hb) (orC_ok alive_ok (orC_ok (m1 fb3) (orC_ok (m1 ga21_0) nat_ok))))
theorem natk21_1 (hw : (Lit.int .i64 (ζ.1 0)).wf = true) (hw1 : (Lit.int .i64 (ζ.1 1)).wf = true) (hc : pickV (ζ.1 0) ((30 : Nat) : Int) = ((21 : Nat) : Int)) (h8 : ζ.1 8 = pickV (ζ.1 1) ((268435456 : Nat) : Int)) (hb : 1 ≤ pickV (ζ.1 1) ((268435456 : Nat) : Int)) : CalOk Yt Tryz.prog (kp Yt Tryz.prog ζ) natB21_1 :=
  orC_ok (pick_ok (κ := kp Yt Tryz.prog ζ) (j := 0) (by decide +kernel) hw (by decide) (by decide) hc) (orC_ok (bsy hw1 h8 hb) (orC_ok alive_ok (orC_ok (m1 fb3) (orC_ok (m1 ga21_1) nat_ok))))
theorem natk22_0 (hw : (Lit.int .i64 (ζ.1 0)).wf = true) (hw1 : (Lit.int .i64 (ζ.1 1)).wf = true) (hc : pickV (ζ.1 0) ((30 : Nat) : Int) = ((22 : Nat) : Int)) (hb : pickV (ζ.1 1) ((268435456 : Nat) : Int) = ((0 : Nat) : Int)) : CalOk Yt Tryz.prog (kp Yt Tryz.prog ζ) natB22_0 :=
  orC_ok (pick_ok (κ := kp Yt Tryz.prog ζ) (j := 0) (by decide +kernel) hw (by decide) (by decide) hc) (orC_ok (pick_ok (κ := kp Yt Tryz.prog ζ) (j := 1) (by decide +kernel) hw1 (by decide) (by decide) hb) (orC_ok alive_ok (orC_ok (m1 fb3) (orC_ok (m1 ga22_0) nat_ok))))
theorem natk22_1 (hw : (Lit.int .i64 (ζ.1 0)).wf = true) (hw1 : (Lit.int .i64 (ζ.1 1)).wf = true) (hc : pickV (ζ.1 0) ((30 : Nat) : Int) = ((22 : Nat) : Int)) (h8 : ζ.1 8 = pickV (ζ.1 1) ((268435456 : Nat) : Int)) (hb : 1 ≤ pickV (ζ.1 1) ((268435456 : Nat) : Int)) : CalOk Yt Tryz.prog (kp Yt Tryz.prog ζ) natB22_1 :=
  orC_ok (pick_ok (κ := kp Yt Tryz.prog ζ) (j := 0) (by decide +kernel) hw (by decide) (by decide) hc) (orC_ok (bsy hw1 h8 hb) (orC_ok alive_ok (orC_ok (m1 fb3) (orC_ok (m1 ga22_1) nat_ok))))
theorem natk23_0 (hw : (Lit.int .i64 (ζ.1 0)).wf = true) (hw1 : (Lit.int .i64 (ζ.1 1)).wf = true) (hc : pickV (ζ.1 0) ((30 : Nat) : Int) = ((23 : Nat) : Int)) (hb : pickV (ζ.1 1) ((268435456 : Nat) : Int) = ((0 : Nat) : Int)) : CalOk Yt Tryz.prog (kp Yt Tryz.prog ζ) natB23_0 :=
  orC_ok (pick_ok (κ := kp Yt Tryz.prog ζ) (j := 0) (by decide +kernel) hw (by decide) (by decide) hc) (orC_ok (pick_ok (κ := kp Yt Tryz.prog ζ) (j := 1) (by decide +kernel) hw1 (by decide) (by decide) hb) (orC_ok alive_ok (orC_ok (m1 fb3) (orC_ok (m1 ga23_0) nat_ok))))
theorem natk23_1 (hw : (Lit.int .i64 (ζ.1 0)).wf = true) (hw1 : (Lit.int .i64 (ζ.1 1)).wf = true) (hc : pickV (ζ.1 0) ((30 : Nat) : Int) = ((23 : Nat) : Int)) (h8 : ζ.1 8 = pickV (ζ.1 1) ((268435456 : Nat) : Int)) (hb : 1 ≤ pickV (ζ.1 1) ((268435456 : Nat) : Int)) : CalOk Yt Tryz.prog (kp Yt Tryz.prog ζ) natB23_1 :=
  orC_ok (pick_ok (κ := kp Yt Tryz.prog ζ) (j := 0) (by decide +kernel) hw (by decide) (by decide) hc) (orC_ok (bsy hw1 h8 hb) (orC_ok alive_ok (orC_ok (m1 fb3) (orC_ok (m1 ga23_1) nat_ok))))
theorem natk24_0 (hw : (Lit.int .i64 (ζ.1 0)).wf = true) (hw1 : (Lit.int .i64 (ζ.1 1)).wf = true) (hc : pickV (ζ.1 0) ((30 : Nat) : Int) = ((24 : Nat) : Int)) (hb : pickV (ζ.1 1) ((268435456 : Nat) : Int) = ((0 : Nat) : Int)) : CalOk Yt Tryz.prog (kp Yt Tryz.prog ζ) natB24_0 :=
  orC_ok (pick_ok (κ := kp Yt Tryz.prog ζ) (j := 0) (by decide +kernel) hw (by decide) (by decide) hc) (orC_ok (pick_ok (κ := kp Yt Tryz.prog ζ) (j := 1) (by decide +kernel) hw1 (by decide) (by decide) hb) (orC_ok alive_ok (orC_ok (m1 fb3) (orC_ok (m1 ga24_0) nat_ok))))
theorem natk24_1 (hw : (Lit.int .i64 (ζ.1 0)).wf = true) (hw1 : (Lit.int .i64 (ζ.1 1)).wf = true) (hc : pickV (ζ.1 0) ((30 : Nat) : Int) = ((24 : Nat) : Int)) (h8 : ζ.1 8 = pickV (ζ.1 1) ((268435456 : Nat) : Int)) (hb : 1 ≤ pickV (ζ.1 1) ((268435456 : Nat) : Int)) : CalOk Yt Tryz.prog (kp Yt Tryz.prog ζ) natB24_1 :=
  orC_ok (pick_ok (κ := kp Yt Tryz.prog ζ) (j := 0) (by decide +kernel) hw (by decide) (by decide) hc) (orC_ok (bsy hw1 h8 hb) (orC_ok alive_ok (orC_ok (m1 fb3) (orC_ok (m1 ga24_1) nat_ok))))
theorem natk25_0 (hw : (Lit.int .i64 (ζ.1 0)).wf = true) (hw1 : (Lit.int .i64 (ζ.1 1)).wf = true) (hc : pickV (ζ.1 0) ((30 : Nat) : Int) = ((25 : Nat) : Int)) (hb : pickV (ζ.1 1) ((268435456 : Nat) : Int) = ((0 : Nat) : Int)) : CalOk Yt Tryz.prog (kp Yt Tryz.prog ζ) natB25_0 :=
  orC_ok (pick_ok (κ := kp Yt Tryz.prog ζ) (j := 0) (by decide +kernel) hw (by decide) (by decide) hc) (orC_ok (pick_ok (κ := kp Yt Tryz.prog ζ) (j := 1) (by decide +kernel) hw1 (by decide) (by decide) hb) (orC_ok alive_ok (orC_ok (m1 fb3) (orC_ok (m1 ga25_0) nat_ok))))
theorem natk25_1 (hw : (Lit.int .i64 (ζ.1 0)).wf = true) (hw1 : (Lit.int .i64 (ζ.1 1)).wf = true) (hc : pickV (ζ.1 0) ((30 : Nat) : Int) = ((25 : Nat) : Int)) (h8 : ζ.1 8 = pickV (ζ.1 1) ((268435456 : Nat) : Int)) (hb : 1 ≤ pickV (ζ.1 1) ((268435456 : Nat) : Int)) : CalOk Yt Tryz.prog (kp Yt Tryz.prog ζ) natB25_1 :=
  orC_ok (pick_ok (κ := kp Yt Tryz.prog ζ) (j := 0) (by decide +kernel) hw (by decide) (by decide) hc) (orC_ok (bsy hw1 h8 hb) (orC_ok alive_ok (orC_ok (m1 fb3) (orC_ok (m1 ga25_1) nat_ok))))
theorem natk26_0 (hw : (Lit.int .i64 (ζ.1 0)).wf = true) (hw1 : (Lit.int .i64 (ζ.1 1)).wf = true) (hc : pickV (ζ.1 0) ((30 : Nat) : Int) = ((26 : Nat) : Int)) (hb : pickV (ζ.1 1) ((268435456 : Nat) : Int) = ((0 : Nat) : Int)) : CalOk Yt Tryz.prog (kp Yt Tryz.prog ζ) natB26_0 :=
  orC_ok (pick_ok (κ := kp Yt Tryz.prog ζ) (j := 0) (by decide +kernel) hw (by decide) (by decide) hc) (orC_ok (pick_ok (κ := kp Yt Tryz.prog ζ) (j := 1) (by decide +kernel) hw1 (by decide) (by decide) hb) (orC_ok alive_ok (orC_ok (m1 fb3) (orC_ok (m1 ga26_0) nat_ok))))
theorem natk26_1 (hw : (Lit.int .i64 (ζ.1 0)).wf = true) (hw1 : (Lit.int .i64 (ζ.1 1)).wf = true) (hc : pickV (ζ.1 0) ((30 : Nat) : Int) = ((26 : Nat) : Int)) (h8 : ζ.1 8 = pickV (ζ.1 1) ((268435456 : Nat) : Int)) (hb : 1 ≤ pickV (ζ.1 1) ((268435456 : Nat) : Int)) : CalOk Yt Tryz.prog (kp Yt Tryz.prog ζ) natB26_1 :=
  orC_ok (pick_ok (κ := kp Yt Tryz.prog ζ) (j := 0) (by decide +kernel) hw (by decide) (by decide) hc) (orC_ok (bsy hw1 h8 hb) (orC_ok alive_ok (orC_ok (m1 fb3) (orC_ok (m1 ga26_1) nat_ok))))
theorem natk27_0 (hw : (Lit.int .i64 (ζ.1 0)).wf = true) (hw1 : (Lit.int .i64 (ζ.1 1)).wf = true) (hc : pickV (ζ.1 0) ((30 : Nat) : Int) = ((27 : Nat) : Int)) (hb : pickV (ζ.1 1) ((268435456 : Nat) : Int) = ((0 : Nat) : Int)) : CalOk Yt Tryz.prog (kp Yt Tryz.prog ζ) natB27_0 :=
  orC_ok (pick_ok (κ := kp Yt Tryz.prog ζ) (j := 0) (by decide +kernel) hw (by decide) (by decide) hc) (orC_ok (pick_ok (κ := kp Yt Tryz.prog ζ) (j := 1) (by decide +kernel) hw1 (by decide) (by decide) hb) (orC_ok alive_ok (orC_ok (m1 fb3) (orC_ok (m1 ga27_0) nat_ok))))
theorem natk27_1 (hw : (Lit.int .i64 (ζ.1 0)).wf = true) (hw1 : (Lit.int .i64 (ζ.1 1)).wf = true) (hc : pickV (ζ.1 0) ((30 : Nat) : Int) = ((27 : Nat) : Int)) (h8 : ζ.1 8 = pickV (ζ.1 1) ((268435456 : Nat) : Int)) (hb : 1 ≤ pickV (ζ.1 1) ((268435456 : Nat) : Int)) : CalOk Yt Tryz.prog (kp Yt Tryz.prog ζ) natB27_1 :=
  orC_ok (pick_ok (κ := kp Yt Tryz.prog ζ) (j := 0) (by decide +kernel) hw (by decide) (by decide) hc) (orC_ok (bsy hw1 h8 hb) (orC_ok alive_ok (orC_ok (m1 fb3) (orC_ok (m1 ga27_1) nat_ok))))
theorem natk28_0 (hw : (Lit.int .i64 (ζ.1 0)).wf = true) (hw1 : (Lit.int .i64 (ζ.1 1)).wf = true) (hc : pickV (ζ.1 0) ((30 : Nat) : Int) = ((28 : Nat) : Int)) (hb : pickV (ζ.1 1) ((268435456 : Nat) : Int) = ((0 : Nat) : Int)) : CalOk Yt Tryz.prog (kp Yt Tryz.prog ζ) natB28_0 :=
  orC_ok (pick_ok (κ := kp Yt Tryz.prog ζ) (j := 0) (by decide +kernel) hw (by decide) (by decide) hc) (orC_ok (pick_ok (κ := kp Yt Tryz.prog ζ) (j := 1) (by decide +kernel) hw1 (by decide) (by decide) hb) (orC_ok alive_ok (orC_ok (m1 fb3) (orC_ok (m1 ga28_0) nat_ok))))
theorem natk28_1 (hw : (Lit.int .i64 (ζ.1 0)).wf = true) (hw1 : (Lit.int .i64 (ζ.1 1)).wf = true) (hc : pickV (ζ.1 0) ((30 : Nat) : Int) = ((28 : Nat) : Int)) (h8 : ζ.1 8 = pickV (ζ.1 1) ((268435456 : Nat) : Int)) (hb : 1 ≤ pickV (ζ.1 1) ((268435456 : Nat) : Int)) : CalOk Yt Tryz.prog (kp Yt Tryz.prog ζ) natB28_1 :=
  orC_ok (pick_ok (κ := kp Yt Tryz.prog ζ) (j := 0) (by decide +kernel) hw (by decide) (by decide) hc) (orC_ok (bsy hw1 h8 hb) (orC_ok alive_ok (orC_ok (m1 fb3) (orC_ok (m1 ga28_1) nat_ok))))
theorem natk29_0 (hw : (Lit.int .i64 (ζ.1 0)).wf = true) (hw1 : (Lit.int .i64 (ζ.1 1)).wf = true) (hc : pickV (ζ.1 0) ((30 : Nat) : Int) = ((29 : Nat) : Int)) (hb : pickV (ζ.1 1) ((268435456 : Nat) : Int) = ((0 : Nat) : Int)) : CalOk Yt Tryz.prog (kp Yt Tryz.prog ζ) natB29_0 :=
  orC_ok (pick_ok (κ := kp Yt Tryz.prog ζ) (j := 0) (by decide +kernel) hw (by decide) (by decide) hc) (orC_ok (pick_ok (κ := kp Yt Tryz.prog ζ) (j := 1) (by decide +kernel) hw1 (by decide) (by decide) hb) (orC_ok alive_ok (orC_ok (m1 fb3) (orC_ok (m1 ga29_0) nat_ok))))
theorem natk29_1 (hw : (Lit.int .i64 (ζ.1 0)).wf = true) (hw1 : (Lit.int .i64 (ζ.1 1)).wf = true) (hc : pickV (ζ.1 0) ((30 : Nat) : Int) = ((29 : Nat) : Int)) (h8 : ζ.1 8 = pickV (ζ.1 1) ((268435456 : Nat) : Int)) (hb : 1 ≤ pickV (ζ.1 1) ((268435456 : Nat) : Int)) : CalOk Yt Tryz.prog (kp Yt Tryz.prog ζ) natB29_1 :=
  orC_ok (pick_ok (κ := kp Yt Tryz.prog ζ) (j := 0) (by decide +kernel) hw (by decide) (by decide) hc) (orC_ok (bsy hw1 h8 hb) (orC_ok alive_ok (orC_ok (m1 fb3) (orC_ok (m1 ga29_1) nat_ok))))
end
theorem BrarI : ∀ {vs : List Value}, areI [.i64, .i64] vs → ∃ p0 p1, vs = [.int .i64 p0, .int .i64 p1] ∧ (Lit.int .i64 p0).wf = true ∧ (Lit.int .i64 p1).wf = true
  | [_, _], ⟨⟨p0, e0, h0⟩, ⟨p1, e1, h1⟩, _⟩ => ⟨p0, p1, by rw [e0, e1], h0, h1⟩
  | [], h => h.elim
  | [_], h => h.2.elim
  | _ :: _ :: _ :: _, h => h.2.2.elim
theorem topBadges_law : LawI Tryz.prog 6 [.i64, .i64] fun W => laidMetH Tryz.prog Rows.topBadgesRow.laid W := by
  intro W args hW hA
  obtain ⟨l, hl⟩ : ∃ l, l = args.toList := ⟨_, rfl⟩
  rw [← hl] at hA
  obtain ⟨p0, p1, hpq, hp0, hp1⟩ := BrarI hA
  subst hpq
  obtain ⟨ρ, hρ⟩ : ∃ ρ : Nat → Int, ρ = fun j => if j = 0 then p0 else if j = 8 then pickV p1 ((268435456 : Nat) : Int) else p1 := ⟨_, rfl⟩
  have hs := symA_is (Y := Yt) (P := Tryz.prog) (g := 0) (ρ := ρ) (β := 0) (j := 0) hA (fun i n hn => by
    rw [hρ]
    match i, hn with
    | 0, hn => simp [intsOf] at hn <;> simp [hn]
    | 1, hn => simp [intsOf] at hn <;> simp [hn]
    | i + 2, hn => simp [intsOf] at hn)
  rw [hl] at hs
  have r0 : ρ 0 = p0 := by rw [hρ] <;> rfl
  have r1 : ρ 1 = p1 := by rw [hρ] <;> rfl
  have r8 : ρ 8 = pickV p1 ((268435456 : Nat) : Int) := by rw [hρ] <;> rfl
  have h0 := tabs_met W hW 0 0 rfl
  have hlt : 0 < W.heap.size := by
    rcases Nat.lt_or_ge 0 W.heap.size with h1 | h1
    · exact h1
    · have : W.heap[0]? = Option.none := Array.getElem?_eq_none h1
      simp [World.cell?, this] at h0
  have hcell : ∀ (i : Nat) s, tabL[i]? = some s → W.cell? ⟨0, i, Option.none⟩ = some (s.tr (env0 Yt Tryz.prog 0 (ρ, 0))) := fun i s h => by
    have hm : tabL = tabZ.map (S.i .u8) := rfl
    rw [hm, List.getElem?_map] at h
    cases hz : tabZ[i]? with
    | none => rw [hz] at h; cases h
    | some n =>
      rw [hz] at h
      cases h
      rw [tabs_met W hW i n hz]
      have hn : n < 32 := by
        have hall : tabZ.all (fun n => decide (n < 32)) = true := by decide
        simpa using List.all_eq_true.1 hall n (List.mem_of_getElem? hz)
      simp only [S.tr]
      rw [vl_lt (by omega)]
  have fin : ∀ {nat : Cal}, CalOk Yt Tryz.prog (kp Yt Tryz.prog (ρ, 0)) nat → valB (calM prog nat 60 (.fn a6 []) (symA [.i64, .i64] 0) (heap0 tabL)) (.s (.b true)) = true → Calls Tryz.prog 6 args W fun e W' => e = .returned (.bool true) ∧ Still W W' := fun hN hr =>
    law_run mixed progOk hN (g := 0) rfl hlt hcell (by decide) hr hs.1 hs.2 rfl (by simp) rfl
  have hc : pickV p0 ((30 : Nat) : Int) = ((0 : Nat) : Int) ∨ pickV p0 ((30 : Nat) : Int) = ((1 : Nat) : Int) ∨ pickV p0 ((30 : Nat) : Int) = ((2 : Nat) : Int) ∨ pickV p0 ((30 : Nat) : Int) = ((3 : Nat) : Int) ∨ pickV p0 ((30 : Nat) : Int) = ((4 : Nat) : Int) ∨ pickV p0 ((30 : Nat) : Int) = ((5 : Nat) : Int) ∨ pickV p0 ((30 : Nat) : Int) = ((6 : Nat) : Int) ∨ pickV p0 ((30 : Nat) : Int) = ((7 : Nat) : Int) ∨ pickV p0 ((30 : Nat) : Int) = ((8 : Nat) : Int) ∨ pickV p0 ((30 : Nat) : Int) = ((9 : Nat) : Int) ∨ pickV p0 ((30 : Nat) : Int) = ((10 : Nat) : Int) ∨ pickV p0 ((30 : Nat) : Int) = ((11 : Nat) : Int) ∨ pickV p0 ((30 : Nat) : Int) = ((12 : Nat) : Int) ∨ pickV p0 ((30 : Nat) : Int) = ((13 : Nat) : Int) ∨ pickV p0 ((30 : Nat) : Int) = ((14 : Nat) : Int) ∨ pickV p0 ((30 : Nat) : Int) = ((15 : Nat) : Int) ∨ pickV p0 ((30 : Nat) : Int) = ((16 : Nat) : Int) ∨ pickV p0 ((30 : Nat) : Int) = ((17 : Nat) : Int) ∨ pickV p0 ((30 : Nat) : Int) = ((18 : Nat) : Int) ∨ pickV p0 ((30 : Nat) : Int) = ((19 : Nat) : Int) ∨ pickV p0 ((30 : Nat) : Int) = ((20 : Nat) : Int) ∨ pickV p0 ((30 : Nat) : Int) = ((21 : Nat) : Int) ∨ pickV p0 ((30 : Nat) : Int) = ((22 : Nat) : Int) ∨ pickV p0 ((30 : Nat) : Int) = ((23 : Nat) : Int) ∨ pickV p0 ((30 : Nat) : Int) = ((24 : Nat) : Int) ∨ pickV p0 ((30 : Nat) : Int) = ((25 : Nat) : Int) ∨ pickV p0 ((30 : Nat) : Int) = ((26 : Nat) : Int) ∨ pickV p0 ((30 : Nat) : Int) = ((27 : Nat) : Int) ∨ pickV p0 ((30 : Nat) : Int) = ((28 : Nat) : Int) ∨ pickV p0 ((30 : Nat) : Int) = ((29 : Nat) : Int) := by
    unfold pickV; split <;> omega
  have hb : pickV p1 ((268435456 : Nat) : Int) = ((0 : Nat) : Int) ∨ 1 ≤ pickV p1 ((268435456 : Nat) : Int) := by
    have := (pick_rg (a := p1) (b := ((268435456 : Nat) : Int)) (by decide)).1
    omega
  rw [← r0] at hc hp0
  rw [← r1] at hb hp1 r8
  rcases hb with hb | hb
  · rcases hc with hc | hc | hc | hc | hc | hc | hc | hc | hc | hc | hc | hc | hc | hc | hc | hc | hc | hc | hc | hc | hc | hc | hc | hc | hc | hc | hc | hc | hc | hc
    · exact fin (natk0_0 (ζ := (ρ, 0)) hp0 hp1 hc hb) bdg0_0
    · exact fin (natk1_0 (ζ := (ρ, 0)) hp0 hp1 hc hb) bdg1_0
    · exact fin (natk2_0 (ζ := (ρ, 0)) hp0 hp1 hc hb) bdg2_0
    · exact fin (natk3_0 (ζ := (ρ, 0)) hp0 hp1 hc hb) bdg3_0
    · exact fin (natk4_0 (ζ := (ρ, 0)) hp0 hp1 hc hb) bdg4_0
    · exact fin (natk5_0 (ζ := (ρ, 0)) hp0 hp1 hc hb) bdg5_0
    · exact fin (natk6_0 (ζ := (ρ, 0)) hp0 hp1 hc hb) bdg6_0
    · exact fin (natk7_0 (ζ := (ρ, 0)) hp0 hp1 hc hb) bdg7_0
    · exact fin (natk8_0 (ζ := (ρ, 0)) hp0 hp1 hc hb) bdg8_0
    · exact fin (natk9_0 (ζ := (ρ, 0)) hp0 hp1 hc hb) bdg9_0
    · exact fin (natk10_0 (ζ := (ρ, 0)) hp0 hp1 hc hb) bdg10_0
    · exact fin (natk11_0 (ζ := (ρ, 0)) hp0 hp1 hc hb) bdg11_0
    · exact fin (natk12_0 (ζ := (ρ, 0)) hp0 hp1 hc hb) bdg12_0
    · exact fin (natk13_0 (ζ := (ρ, 0)) hp0 hp1 hc hb) bdg13_0
    · exact fin (natk14_0 (ζ := (ρ, 0)) hp0 hp1 hc hb) bdg14_0
    · exact fin (natk15_0 (ζ := (ρ, 0)) hp0 hp1 hc hb) bdg15_0
    · exact fin (natk16_0 (ζ := (ρ, 0)) hp0 hp1 hc hb) bdg16_0
    · exact fin (natk17_0 (ζ := (ρ, 0)) hp0 hp1 hc hb) bdg17_0
    · exact fin (natk18_0 (ζ := (ρ, 0)) hp0 hp1 hc hb) bdg18_0
    · exact fin (natk19_0 (ζ := (ρ, 0)) hp0 hp1 hc hb) bdg19_0
    · exact fin (natk20_0 (ζ := (ρ, 0)) hp0 hp1 hc hb) bdg20_0
    · exact fin (natk21_0 (ζ := (ρ, 0)) hp0 hp1 hc hb) bdg21_0
    · exact fin (natk22_0 (ζ := (ρ, 0)) hp0 hp1 hc hb) bdg22_0
    · exact fin (natk23_0 (ζ := (ρ, 0)) hp0 hp1 hc hb) bdg23_0
    · exact fin (natk24_0 (ζ := (ρ, 0)) hp0 hp1 hc hb) bdg24_0
    · exact fin (natk25_0 (ζ := (ρ, 0)) hp0 hp1 hc hb) bdg25_0
    · exact fin (natk26_0 (ζ := (ρ, 0)) hp0 hp1 hc hb) bdg26_0
    · exact fin (natk27_0 (ζ := (ρ, 0)) hp0 hp1 hc hb) bdg27_0
    · exact fin (natk28_0 (ζ := (ρ, 0)) hp0 hp1 hc hb) bdg28_0
    · exact fin (natk29_0 (ζ := (ρ, 0)) hp0 hp1 hc hb) bdg29_0
  · rcases hc with hc | hc | hc | hc | hc | hc | hc | hc | hc | hc | hc | hc | hc | hc | hc | hc | hc | hc | hc | hc | hc | hc | hc | hc | hc | hc | hc | hc | hc | hc
    · exact fin (natk0_1 (ζ := (ρ, 0)) hp0 hp1 hc r8 hb) bdg0_1
    · exact fin (natk1_1 (ζ := (ρ, 0)) hp0 hp1 hc r8 hb) bdg1_1
    · exact fin (natk2_1 (ζ := (ρ, 0)) hp0 hp1 hc r8 hb) bdg2_1
    · exact fin (natk3_1 (ζ := (ρ, 0)) hp0 hp1 hc r8 hb) bdg3_1
    · exact fin (natk4_1 (ζ := (ρ, 0)) hp0 hp1 hc r8 hb) bdg4_1
    · exact fin (natk5_1 (ζ := (ρ, 0)) hp0 hp1 hc r8 hb) bdg5_1
    · exact fin (natk6_1 (ζ := (ρ, 0)) hp0 hp1 hc r8 hb) bdg6_1
    · exact fin (natk7_1 (ζ := (ρ, 0)) hp0 hp1 hc r8 hb) bdg7_1
    · exact fin (natk8_1 (ζ := (ρ, 0)) hp0 hp1 hc r8 hb) bdg8_1
    · exact fin (natk9_1 (ζ := (ρ, 0)) hp0 hp1 hc r8 hb) bdg9_1
    · exact fin (natk10_1 (ζ := (ρ, 0)) hp0 hp1 hc r8 hb) bdg10_1
    · exact fin (natk11_1 (ζ := (ρ, 0)) hp0 hp1 hc r8 hb) bdg11_1
    · exact fin (natk12_1 (ζ := (ρ, 0)) hp0 hp1 hc r8 hb) bdg12_1
    · exact fin (natk13_1 (ζ := (ρ, 0)) hp0 hp1 hc r8 hb) bdg13_1
    · exact fin (natk14_1 (ζ := (ρ, 0)) hp0 hp1 hc r8 hb) bdg14_1
    · exact fin (natk15_1 (ζ := (ρ, 0)) hp0 hp1 hc r8 hb) bdg15_1
    · exact fin (natk16_1 (ζ := (ρ, 0)) hp0 hp1 hc r8 hb) bdg16_1
    · exact fin (natk17_1 (ζ := (ρ, 0)) hp0 hp1 hc r8 hb) bdg17_1
    · exact fin (natk18_1 (ζ := (ρ, 0)) hp0 hp1 hc r8 hb) bdg18_1
    · exact fin (natk19_1 (ζ := (ρ, 0)) hp0 hp1 hc r8 hb) bdg19_1
    · exact fin (natk20_1 (ζ := (ρ, 0)) hp0 hp1 hc r8 hb) bdg20_1
    · exact fin (natk21_1 (ζ := (ρ, 0)) hp0 hp1 hc r8 hb) bdg21_1
    · exact fin (natk22_1 (ζ := (ρ, 0)) hp0 hp1 hc r8 hb) bdg22_1
    · exact fin (natk23_1 (ζ := (ρ, 0)) hp0 hp1 hc r8 hb) bdg23_1
    · exact fin (natk24_1 (ζ := (ρ, 0)) hp0 hp1 hc r8 hb) bdg24_1
    · exact fin (natk25_1 (ζ := (ρ, 0)) hp0 hp1 hc r8 hb) bdg25_1
    · exact fin (natk26_1 (ζ := (ρ, 0)) hp0 hp1 hc r8 hb) bdg26_1
    · exact fin (natk27_1 (ζ := (ρ, 0)) hp0 hp1 hc r8 hb) bdg27_1
    · exact fin (natk28_1 (ζ := (ρ, 0)) hp0 hp1 hc r8 hb) bdg28_1
    · exact fin (natk29_1 (ζ := (ρ, 0)) hp0 hp1 hc r8 hb) bdg29_1
end Go.Proofs.YtebgbhgehnpahaaGreatDoor
