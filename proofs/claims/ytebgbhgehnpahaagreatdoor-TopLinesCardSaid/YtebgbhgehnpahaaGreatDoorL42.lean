/- A part of the proof of the claim that the last text of this folder states. -/
import Derived.Test.YtebgbhgehnpahaaGreatDoorL17
import Derived.Test.YtebgbhgehnpahaaGreatDoorL29
import Derived.Test.YtebgbhgehnpahaaGreatDoorL30
import Derived.Test.YtebgbhgehnpahaaGreatDoorL34
import Derived.Test.YtebgbhgehnpahaaGreatDoorL35
import Derived.Test.YtebgbhgehnpahaaGreatDoorL36
import Derived.Test.YtebgbhgehnpahaaGreatDoorL37
import Derived.Test.YtebgbhgehnpahaaGreatDoorL38
import Derived.Test.YtebgbhgehnpahaaGreatDoorL39
import Derived.Test.YtebgbhgehnpahaaGreatDoorL40
import Derived.Test.YtebgbhgehnpahaaGreatDoorL41
namespace Go.Proofs.YtebgbhgehnpahaaGreatDoor
open Go.E
set_option linter.all false
set_option maxRecDepth 100000
section
variable {ζ : (Nat → Int) × Nat}
theorem m1 {s0 : S} {A : List V} {H : Hp} {v : V} {H' : Hp} (h : runB (calM prog nat 60 s0 A H) v H' = true) : CalOk Yt Tryz.prog (kp Yt Tryz.prog ζ) (memS s0 A H v H') := memS_ok (calM_ok mixed progOk nat_ok 60) h
theorem m2 {s0 : S} {A : List V} {H : Hp} {v : V} {H' : Hp} (h : runB (trimC (calM prog nat 60) s0 A H) v H' = true) : CalOk Yt Tryz.prog (kp Yt Tryz.prog ζ) (memS s0 A H v H') := memS_ok (trimC_ok (calM_ok mixed progOk nat_ok 60)) h
theorem alive_ok : CalOk Yt Tryz.prog (kp Yt Tryz.prog ζ) (memS fa0S fa0A fa0H fa0V fa0R) := memS_ok (trimC_ok (calM_ok mixed progOk (orC_ok (m2 fa4) nat_ok) 60)) fa0
theorem bsy (hw : (Lit.int .i64 (ζ.1 1)).wf = true) (h8 : ζ.1 8 = pickV (ζ.1 1) ((268435455 : Nat) : Int) + 1) : CalOk Yt Tryz.prog (kp Yt Tryz.prog ζ) (oraC (Pth.of 17) [.s (.i .i64 ((symN + 1 : Nat) : Int)), .s (.i .i64 (.ofNat 268435455))] (.s (.i .i64 (.ofNat 20088504296269701709824)))) :=
  pick_gen (κ := kp Yt Tryz.prog ζ) (j := 1) (by decide +kernel) hw (by decide) (by decide) fun e hκ => by
    obtain ⟨q1, q2⟩ := pick_rg (a := ζ.1 1) (b := ((268435455 : Nat) : Int)) (by decide)
    have := fld_valM (e := e) (n := 20088504296269701709824) (j := 8) (b := pickV (ζ.1 1) ((268435455 : Nat) : Int) + 1) (by decide +kernel) (by decide +kernel) (by decide +kernel) (by decide +kernel) (by rw [hκ.2.1]; exact h8) (by omega) (by
      show _ ≤ ((268435455 : Nat) : Int)
      omega)
    rw [this]; exact Int.add_sub_cancel _ _
theorem tsy (hw : (Lit.int .i64 (ζ.1 2)).wf = true) (h8 : ζ.1 48 = pickV (ζ.1 2) ((6 : Nat) : Int) + 1) : CalOk Yt Tryz.prog (kp Yt Tryz.prog ζ) (oraC (Pth.of 17) [.s (.i .i64 ((symN + 2 : Nat) : Int)), .s (.i .i64 (.ofNat 6))] (.s (.i .i64 (.ofNat 114535833953662605983744)))) :=
  pick_gen (κ := kp Yt Tryz.prog ζ) (j := 2) (by decide +kernel) hw (by decide) (by decide) fun e hκ => by
    obtain ⟨q1, q2⟩ := pick_rg (a := ζ.1 2) (b := ((6 : Nat) : Int)) (by decide)
    have := fld_valM (e := e) (n := 114535833953662605983744) (j := 48) (b := pickV (ζ.1 2) ((6 : Nat) : Int) + 1) (by decide +kernel) (by decide +kernel) (by decide +kernel) (by decide +kernel) (by rw [hκ.2.1]; exact h8) (by omega) (by
      show _ ≤ ((6 : Nat) : Int)
      omega)
    rw [this]; exact Int.add_sub_cancel _ _
theorem natk0 (hw : (Lit.int .i64 (ζ.1 0)).wf = true) (hw1 : (Lit.int .i64 (ζ.1 1)).wf = true) (hw2 : (Lit.int .i64 (ζ.1 2)).wf = true) (hc : pickV (ζ.1 0) ((16 : Nat) : Int) = ((0 : Nat) : Int)) (h8 : ζ.1 8 = pickV (ζ.1 1) ((268435455 : Nat) : Int) + 1) (h48 : ζ.1 48 = pickV (ζ.1 2) ((6 : Nat) : Int) + 1) : CalOk Yt Tryz.prog (kp Yt Tryz.prog ζ) natL0 :=
  orC_ok (pick_ok (κ := kp Yt Tryz.prog ζ) (j := 0) (by decide +kernel) hw (by decide) (by decide) hc) (orC_ok (bsy hw1 h8) (orC_ok (tsy hw2 h48) (orC_ok alive_ok (orC_ok (m1 g0_0) (orC_ok (m1 g0_1) (orC_ok (m1 g0_2) (orC_ok (m1 g0_3) (orC_ok (m1 g0_4) (orC_ok (m1 g0_5) (orC_ok (m2 g0_6) nat_ok))))))))))
theorem vk0 : Ver jB (calM prog natL0 60) (kF (fr f9) (.s (.b true))) (kxZ 0 jZ (calM prog natL0 60) (kF (fr f9) (.s (.b true)))) S0 := by
  have := verC_ver ver0 trivial
  rw [List.append_nil] at this
  exact this
theorem sk0 : ∀ s ∈ S0, 0 < s.h.n.n := by
  intro s hs
  have h : (S0.all fun s => Nat.blt 0 s.h.n.n) = true := by decide +kernel
  have := List.all_eq_true.1 h s hs
  rwa [Nat.blt_eq] at this
theorem natk1 (hw : (Lit.int .i64 (ζ.1 0)).wf = true) (hw1 : (Lit.int .i64 (ζ.1 1)).wf = true) (hw2 : (Lit.int .i64 (ζ.1 2)).wf = true) (hc : pickV (ζ.1 0) ((16 : Nat) : Int) = ((1 : Nat) : Int)) (h8 : ζ.1 8 = pickV (ζ.1 1) ((268435455 : Nat) : Int) + 1) (h48 : ζ.1 48 = pickV (ζ.1 2) ((6 : Nat) : Int) + 1) : CalOk Yt Tryz.prog (kp Yt Tryz.prog ζ) natL1 :=
  orC_ok (pick_ok (κ := kp Yt Tryz.prog ζ) (j := 0) (by decide +kernel) hw (by decide) (by decide) hc) (orC_ok (bsy hw1 h8) (orC_ok (tsy hw2 h48) (orC_ok alive_ok (orC_ok (m1 g1_0) (orC_ok (m1 g1_1) (orC_ok (m1 g1_2) (orC_ok (m1 g1_3) (orC_ok (m1 g1_4) (orC_ok (m1 g1_5) (orC_ok (m2 g1_6) nat_ok))))))))))
theorem vk1 : Ver jB (calM prog natL1 60) (kF (fr f9) (.s (.b true))) (kxZ 0 jZ (calM prog natL1 60) (kF (fr f9) (.s (.b true)))) S1 := by
  have := verC_ver ver1 trivial
  rw [List.append_nil] at this
  exact this
theorem sk1 : ∀ s ∈ S1, 0 < s.h.n.n := by
  intro s hs
  have h : (S1.all fun s => Nat.blt 0 s.h.n.n) = true := by decide +kernel
  have := List.all_eq_true.1 h s hs
  rwa [Nat.blt_eq] at this
theorem natk2 (hw : (Lit.int .i64 (ζ.1 0)).wf = true) (hw1 : (Lit.int .i64 (ζ.1 1)).wf = true) (hw2 : (Lit.int .i64 (ζ.1 2)).wf = true) (hc : pickV (ζ.1 0) ((16 : Nat) : Int) = ((2 : Nat) : Int)) (h8 : ζ.1 8 = pickV (ζ.1 1) ((268435455 : Nat) : Int) + 1) (h48 : ζ.1 48 = pickV (ζ.1 2) ((6 : Nat) : Int) + 1) : CalOk Yt Tryz.prog (kp Yt Tryz.prog ζ) natL2 :=
  orC_ok (pick_ok (κ := kp Yt Tryz.prog ζ) (j := 0) (by decide +kernel) hw (by decide) (by decide) hc) (orC_ok (bsy hw1 h8) (orC_ok (tsy hw2 h48) (orC_ok alive_ok (orC_ok (m1 g2_0) (orC_ok (m1 g2_1) (orC_ok (m1 g2_2) (orC_ok (m1 g2_3) (orC_ok (m1 g2_4) (orC_ok (m1 g2_5) (orC_ok (m2 g2_6) nat_ok))))))))))
theorem vk2 : Ver jB (calM prog natL2 60) (kF (fr f9) (.s (.b true))) (kxZ 0 jZ (calM prog natL2 60) (kF (fr f9) (.s (.b true)))) S2 := by
  have := verC_ver ver2 trivial
  rw [List.append_nil] at this
  exact this
theorem sk2 : ∀ s ∈ S2, 0 < s.h.n.n := by
  intro s hs
  have h : (S2.all fun s => Nat.blt 0 s.h.n.n) = true := by decide +kernel
  have := List.all_eq_true.1 h s hs
  rwa [Nat.blt_eq] at this
theorem natk3 (hw : (Lit.int .i64 (ζ.1 0)).wf = true) (hw1 : (Lit.int .i64 (ζ.1 1)).wf = true) (hw2 : (Lit.int .i64 (ζ.1 2)).wf = true) (hc : pickV (ζ.1 0) ((16 : Nat) : Int) = ((3 : Nat) : Int)) (h8 : ζ.1 8 = pickV (ζ.1 1) ((268435455 : Nat) : Int) + 1) (h48 : ζ.1 48 = pickV (ζ.1 2) ((6 : Nat) : Int) + 1) : CalOk Yt Tryz.prog (kp Yt Tryz.prog ζ) natL3 :=
  orC_ok (pick_ok (κ := kp Yt Tryz.prog ζ) (j := 0) (by decide +kernel) hw (by decide) (by decide) hc) (orC_ok (bsy hw1 h8) (orC_ok (tsy hw2 h48) (orC_ok alive_ok (orC_ok (m1 g3_0) (orC_ok (m1 g3_1) (orC_ok (m1 g3_2) (orC_ok (m1 g3_3) (orC_ok (m1 g3_4) (orC_ok (m1 g3_5) (orC_ok (m2 g3_6) nat_ok))))))))))
theorem vk3 : Ver jB (calM prog natL3 60) (kF (fr f9) (.s (.b true))) (kxZ 0 jZ (calM prog natL3 60) (kF (fr f9) (.s (.b true)))) S3 := by
  have := verC_ver ver3 trivial
  rw [List.append_nil] at this
  exact this
theorem sk3 : ∀ s ∈ S3, 0 < s.h.n.n := by
  intro s hs
  have h : (S3.all fun s => Nat.blt 0 s.h.n.n) = true := by decide +kernel
  have := List.all_eq_true.1 h s hs
  rwa [Nat.blt_eq] at this
theorem natk4 (hw : (Lit.int .i64 (ζ.1 0)).wf = true) (hw1 : (Lit.int .i64 (ζ.1 1)).wf = true) (hw2 : (Lit.int .i64 (ζ.1 2)).wf = true) (hc : pickV (ζ.1 0) ((16 : Nat) : Int) = ((4 : Nat) : Int)) (h8 : ζ.1 8 = pickV (ζ.1 1) ((268435455 : Nat) : Int) + 1) (h48 : ζ.1 48 = pickV (ζ.1 2) ((6 : Nat) : Int) + 1) : CalOk Yt Tryz.prog (kp Yt Tryz.prog ζ) natL4 :=
  orC_ok (pick_ok (κ := kp Yt Tryz.prog ζ) (j := 0) (by decide +kernel) hw (by decide) (by decide) hc) (orC_ok (bsy hw1 h8) (orC_ok (tsy hw2 h48) (orC_ok alive_ok (orC_ok (m1 g4_0) (orC_ok (m1 g4_1) (orC_ok (m1 g4_2) (orC_ok (m1 g4_3) (orC_ok (m1 g4_4) (orC_ok (m1 g4_5) (orC_ok (m2 g4_6) nat_ok))))))))))
theorem vk4 : Ver jB (calM prog natL4 60) (kF (fr f9) (.s (.b true))) (kxZ 0 jZ (calM prog natL4 60) (kF (fr f9) (.s (.b true)))) S4 := by
  have := verC_ver ver4 trivial
  rw [List.append_nil] at this
  exact this
theorem sk4 : ∀ s ∈ S4, 0 < s.h.n.n := by
  intro s hs
  have h : (S4.all fun s => Nat.blt 0 s.h.n.n) = true := by decide +kernel
  have := List.all_eq_true.1 h s hs
  rwa [Nat.blt_eq] at this
theorem natk5 (hw : (Lit.int .i64 (ζ.1 0)).wf = true) (hw1 : (Lit.int .i64 (ζ.1 1)).wf = true) (hw2 : (Lit.int .i64 (ζ.1 2)).wf = true) (hc : pickV (ζ.1 0) ((16 : Nat) : Int) = ((5 : Nat) : Int)) (h8 : ζ.1 8 = pickV (ζ.1 1) ((268435455 : Nat) : Int) + 1) (h48 : ζ.1 48 = pickV (ζ.1 2) ((6 : Nat) : Int) + 1) : CalOk Yt Tryz.prog (kp Yt Tryz.prog ζ) natL5 :=
  orC_ok (pick_ok (κ := kp Yt Tryz.prog ζ) (j := 0) (by decide +kernel) hw (by decide) (by decide) hc) (orC_ok (bsy hw1 h8) (orC_ok (tsy hw2 h48) (orC_ok alive_ok (orC_ok (m1 g5_0) (orC_ok (m1 g5_1) (orC_ok (m1 g5_2) (orC_ok (m1 g5_3) (orC_ok (m1 g5_4) (orC_ok (m1 g5_5) (orC_ok (m2 g5_6) nat_ok))))))))))
theorem vk5 : Ver jB (calM prog natL5 60) (kF (fr f9) (.s (.b true))) (kxZ 0 jZ (calM prog natL5 60) (kF (fr f9) (.s (.b true)))) S5 := by
  have := verC_ver ver5 trivial
  rw [List.append_nil] at this
  exact this
theorem sk5 : ∀ s ∈ S5, 0 < s.h.n.n := by
  intro s hs
  have h : (S5.all fun s => Nat.blt 0 s.h.n.n) = true := by decide +kernel
  have := List.all_eq_true.1 h s hs
  rwa [Nat.blt_eq] at this
theorem natk6 (hw : (Lit.int .i64 (ζ.1 0)).wf = true) (hw1 : (Lit.int .i64 (ζ.1 1)).wf = true) (hw2 : (Lit.int .i64 (ζ.1 2)).wf = true) (hc : pickV (ζ.1 0) ((16 : Nat) : Int) = ((6 : Nat) : Int)) (h8 : ζ.1 8 = pickV (ζ.1 1) ((268435455 : Nat) : Int) + 1) (h48 : ζ.1 48 = pickV (ζ.1 2) ((6 : Nat) : Int) + 1) : CalOk Yt Tryz.prog (kp Yt Tryz.prog ζ) natL6 :=
  orC_ok (pick_ok (κ := kp Yt Tryz.prog ζ) (j := 0) (by decide +kernel) hw (by decide) (by decide) hc) (orC_ok (bsy hw1 h8) (orC_ok (tsy hw2 h48) (orC_ok alive_ok (orC_ok (m1 g6_0) (orC_ok (m1 g6_1) (orC_ok (m1 g6_2) (orC_ok (m1 g6_3) (orC_ok (m1 g6_4) (orC_ok (m1 g6_5) (orC_ok (m2 g6_6) nat_ok))))))))))
theorem vk6 : Ver jB (calM prog natL6 60) (kF (fr f9) (.s (.b true))) (kxZ 0 jZ (calM prog natL6 60) (kF (fr f9) (.s (.b true)))) S6 := by
  have := verC_ver ver6 trivial
  rw [List.append_nil] at this
  exact this
theorem sk6 : ∀ s ∈ S6, 0 < s.h.n.n := by
  intro s hs
  have h : (S6.all fun s => Nat.blt 0 s.h.n.n) = true := by decide +kernel
  have := List.all_eq_true.1 h s hs
  rwa [Nat.blt_eq] at this
theorem natk7 (hw : (Lit.int .i64 (ζ.1 0)).wf = true) (hw1 : (Lit.int .i64 (ζ.1 1)).wf = true) (hw2 : (Lit.int .i64 (ζ.1 2)).wf = true) (hc : pickV (ζ.1 0) ((16 : Nat) : Int) = ((7 : Nat) : Int)) (h8 : ζ.1 8 = pickV (ζ.1 1) ((268435455 : Nat) : Int) + 1) (h48 : ζ.1 48 = pickV (ζ.1 2) ((6 : Nat) : Int) + 1) : CalOk Yt Tryz.prog (kp Yt Tryz.prog ζ) natL7 :=
  orC_ok (pick_ok (κ := kp Yt Tryz.prog ζ) (j := 0) (by decide +kernel) hw (by decide) (by decide) hc) (orC_ok (bsy hw1 h8) (orC_ok (tsy hw2 h48) (orC_ok alive_ok (orC_ok (m1 g7_0) (orC_ok (m1 g7_1) (orC_ok (m1 g7_2) (orC_ok (m1 g7_3) (orC_ok (m1 g7_4) (orC_ok (m1 g7_5) (orC_ok (m2 g7_6) nat_ok))))))))))
theorem vk7 : Ver jB (calM prog natL7 60) (kF (fr f9) (.s (.b true))) (kxZ 0 jZ (calM prog natL7 60) (kF (fr f9) (.s (.b true)))) S7 := by
  have := verC_ver ver7 trivial
  rw [List.append_nil] at this
  exact this
theorem sk7 : ∀ s ∈ S7, 0 < s.h.n.n := by
  intro s hs
  have h : (S7.all fun s => Nat.blt 0 s.h.n.n) = true := by decide +kernel
  have := List.all_eq_true.1 h s hs
  rwa [Nat.blt_eq] at this
theorem natk8 (hw : (Lit.int .i64 (ζ.1 0)).wf = true) (hw1 : (Lit.int .i64 (ζ.1 1)).wf = true) (hw2 : (Lit.int .i64 (ζ.1 2)).wf = true) (hc : pickV (ζ.1 0) ((16 : Nat) : Int) = ((8 : Nat) : Int)) (h8 : ζ.1 8 = pickV (ζ.1 1) ((268435455 : Nat) : Int) + 1) (h48 : ζ.1 48 = pickV (ζ.1 2) ((6 : Nat) : Int) + 1) : CalOk Yt Tryz.prog (kp Yt Tryz.prog ζ) natL8 :=
  orC_ok (pick_ok (κ := kp Yt Tryz.prog ζ) (j := 0) (by decide +kernel) hw (by decide) (by decide) hc) (orC_ok (bsy hw1 h8) (orC_ok (tsy hw2 h48) (orC_ok alive_ok (orC_ok (m1 g8_0) (orC_ok (m1 g8_1) (orC_ok (m1 g8_2) (orC_ok (m1 g8_3) (orC_ok (m1 g8_4) (orC_ok (m1 g8_5) (orC_ok (m2 g8_6) nat_ok))))))))))
theorem vk8 : Ver jB (calM prog natL8 60) (kF (fr f9) (.s (.b true))) (kxZ 0 jZ (calM prog natL8 60) (kF (fr f9) (.s (.b true)))) S8 := by
  have := verC_ver ver8 trivial
  rw [List.append_nil] at this
  exact this
theorem sk8 : ∀ s ∈ S8, 0 < s.h.n.n := by
  intro s hs
  have h : (S8.all fun s => Nat.blt 0 s.h.n.n) = true := by decide +kernel
  have := List.all_eq_true.1 h s hs
  rwa [Nat.blt_eq] at this
theorem natk9 (hw : (Lit.int .i64 (ζ.1 0)).wf = true) (hw1 : (Lit.int .i64 (ζ.1 1)).wf = true) (hw2 : (Lit.int .i64 (ζ.1 2)).wf = true) (hc : pickV (ζ.1 0) ((16 : Nat) : Int) = ((9 : Nat) : Int)) (h8 : ζ.1 8 = pickV (ζ.1 1) ((268435455 : Nat) : Int) + 1) (h48 : ζ.1 48 = pickV (ζ.1 2) ((6 : Nat) : Int) + 1) : CalOk Yt Tryz.prog (kp Yt Tryz.prog ζ) natL9 :=
  orC_ok (pick_ok (κ := kp Yt Tryz.prog ζ) (j := 0) (by decide +kernel) hw (by decide) (by decide) hc) (orC_ok (bsy hw1 h8) (orC_ok (tsy hw2 h48) (orC_ok alive_ok (orC_ok (m1 g9_0) (orC_ok (m1 g9_1) (orC_ok (m1 g9_2) (orC_ok (m1 g9_3) (orC_ok (m1 g9_4) (orC_ok (m1 g9_5) (orC_ok (m2 g9_6) nat_ok))))))))))
theorem vk9 : Ver jB (calM prog natL9 60) (kF (fr f9) (.s (.b true))) (kxZ 0 jZ (calM prog natL9 60) (kF (fr f9) (.s (.b true)))) S9 := by
  have := verC_ver ver9 trivial
  rw [List.append_nil] at this
  exact this
theorem sk9 : ∀ s ∈ S9, 0 < s.h.n.n := by
  intro s hs
  have h : (S9.all fun s => Nat.blt 0 s.h.n.n) = true := by decide +kernel
  have := List.all_eq_true.1 h s hs
  rwa [Nat.blt_eq] at this
theorem natk10 (hw : (Lit.int .i64 (ζ.1 0)).wf = true) (hw1 : (Lit.int .i64 (ζ.1 1)).wf = true) (hw2 : (Lit.int .i64 (ζ.1 2)).wf = true) (hc : pickV (ζ.1 0) ((16 : Nat) : Int) = ((10 : Nat) : Int)) (h8 : ζ.1 8 = pickV (ζ.1 1) ((268435455 : Nat) : Int) + 1) (h48 : ζ.1 48 = pickV (ζ.1 2) ((6 : Nat) : Int) + 1) : CalOk Yt Tryz.prog (kp Yt Tryz.prog ζ) natL10 :=
  orC_ok (pick_ok (κ := kp Yt Tryz.prog ζ) (j := 0) (by decide +kernel) hw (by decide) (by decide) hc) (orC_ok (bsy hw1 h8) (orC_ok (tsy hw2 h48) (orC_ok alive_ok (orC_ok (m1 g10_0) (orC_ok (m1 g10_1) (orC_ok (m1 g10_2) (orC_ok (m1 g10_3) (orC_ok (m1 g10_4) (orC_ok (m1 g10_5) (orC_ok (m2 g10_6) nat_ok))))))))))
theorem vk10 : Ver jB (calM prog natL10 60) (kF (fr f9) (.s (.b true))) (kxZ 0 jZ (calM prog natL10 60) (kF (fr f9) (.s (.b true)))) S10 := by
  have := verC_ver ver10 trivial
  rw [List.append_nil] at this
  exact this
theorem sk10 : ∀ s ∈ S10, 0 < s.h.n.n := by
  intro s hs
  have h : (S10.all fun s => Nat.blt 0 s.h.n.n) = true := by decide +kernel
  have := List.all_eq_true.1 h s hs
  rwa [Nat.blt_eq] at this
theorem natk11 (hw : (Lit.int .i64 (ζ.1 0)).wf = true) (hw1 : (Lit.int .i64 (ζ.1 1)).wf = true) (hw2 : (Lit.int .i64 (ζ.1 2)).wf = true) (hc : pickV (ζ.1 0) ((16 : Nat) : Int) = ((11 : Nat) : Int)) (h8 : ζ.1 8 = pickV (ζ.1 1) ((268435455 : Nat) : Int) + 1) (h48 : ζ.1 48 = pickV (ζ.1 2) ((6 : Nat) : Int) + 1) : CalOk Yt Tryz.prog (kp Yt Tryz.prog ζ) natL11 :=
  orC_ok (pick_ok (κ := kp Yt Tryz.prog ζ) (j := 0) (by decide +kernel) hw (by decide) (by decide) hc) (orC_ok (bsy hw1 h8) (orC_ok (tsy hw2 h48) (orC_ok alive_ok (orC_ok (m1 g11_0) (orC_ok (m1 g11_1) (orC_ok (m1 g11_2) (orC_ok (m1 g11_3) (orC_ok (m1 g11_4) (orC_ok (m1 g11_5) (orC_ok (m2 g11_6) nat_ok))))))))))
theorem vk11 : Ver jB (calM prog natL11 60) (kF (fr f9) (.s (.b true))) (kxZ 0 jZ (calM prog natL11 60) (kF (fr f9) (.s (.b true)))) S11 := by
  have := verC_ver ver11 trivial
  rw [List.append_nil] at this
  exact this
theorem sk11 : ∀ s ∈ S11, 0 < s.h.n.n := by
  intro s hs
  have h : (S11.all fun s => Nat.blt 0 s.h.n.n) = true := by decide +kernel
  have := List.all_eq_true.1 h s hs
  rwa [Nat.blt_eq] at this
theorem natk12 (hw : (Lit.int .i64 (ζ.1 0)).wf = true) (hw1 : (Lit.int .i64 (ζ.1 1)).wf = true) (hw2 : (Lit.int .i64 (ζ.1 2)).wf = true) (hc : pickV (ζ.1 0) ((16 : Nat) : Int) = ((12 : Nat) : Int)) (h8 : ζ.1 8 = pickV (ζ.1 1) ((268435455 : Nat) : Int) + 1) (h48 : ζ.1 48 = pickV (ζ.1 2) ((6 : Nat) : Int) + 1) : CalOk Yt Tryz.prog (kp Yt Tryz.prog ζ) natL12 :=
  orC_ok (pick_ok (κ := kp Yt Tryz.prog ζ) (j := 0) (by decide +kernel) hw (by decide) (by decide) hc) (orC_ok (bsy hw1 h8) (orC_ok (tsy hw2 h48) (orC_ok alive_ok (orC_ok (m1 g12_0) (orC_ok (m1 g12_1) (orC_ok (m1 g12_2) (orC_ok (m1 g12_3) (orC_ok (m1 g12_4) (orC_ok (m1 g12_5) (orC_ok (m2 g12_6) nat_ok))))))))))
theorem vk12 : Ver jB (calM prog natL12 60) (kF (fr f9) (.s (.b true))) (kxZ 0 jZ (calM prog natL12 60) (kF (fr f9) (.s (.b true)))) S12 := by
  have := verC_ver ver12 trivial
  rw [List.append_nil] at this
  exact this
theorem sk12 : ∀ s ∈ S12, 0 < s.h.n.n := by
  intro s hs
  have h : (S12.all fun s => Nat.blt 0 s.h.n.n) = true := by decide +kernel
  have := List.all_eq_true.1 h s hs
  rwa [Nat.blt_eq] at this
theorem natk13 (hw : (Lit.int .i64 (ζ.1 0)).wf = true) (hw1 : (Lit.int .i64 (ζ.1 1)).wf = true) (hw2 : (Lit.int .i64 (ζ.1 2)).wf = true) (hc : pickV (ζ.1 0) ((16 : Nat) : Int) = ((13 : Nat) : Int)) (h8 : ζ.1 8 = pickV (ζ.1 1) ((268435455 : Nat) : Int) + 1) (h48 : ζ.1 48 = pickV (ζ.1 2) ((6 : Nat) : Int) + 1) : CalOk Yt Tryz.prog (kp Yt Tryz.prog ζ) natL13 :=
  orC_ok (pick_ok (κ := kp Yt Tryz.prog ζ) (j := 0) (by decide +kernel) hw (by decide) (by decide) hc) (orC_ok (bsy hw1 h8) (orC_ok (tsy hw2 h48) (orC_ok alive_ok (orC_ok (m1 g13_0) (orC_ok (m1 g13_1) (orC_ok (m1 g13_2) (orC_ok (m1 g13_3) (orC_ok (m1 g13_4) (orC_ok (m1 g13_5) (orC_ok (m2 g13_6) nat_ok))))))))))
theorem vk13 : Ver jB (calM prog natL13 60) (kF (fr f9) (.s (.b true))) (kxZ 0 jZ (calM prog natL13 60) (kF (fr f9) (.s (.b true)))) S13 := by
  have := verC_ver ver13 trivial
  rw [List.append_nil] at this
  exact this
theorem sk13 : ∀ s ∈ S13, 0 < s.h.n.n := by
  intro s hs
  have h : (S13.all fun s => Nat.blt 0 s.h.n.n) = true := by decide +kernel
  have := List.all_eq_true.1 h s hs
  rwa [Nat.blt_eq] at this
theorem natk14 (hw : (Lit.int .i64 (ζ.1 0)).wf = true) (hw1 : (Lit.int .i64 (ζ.1 1)).wf = true) (hw2 : (Lit.int .i64 (ζ.1 2)).wf = true) (hc : pickV (ζ.1 0) ((16 : Nat) : Int) = ((14 : Nat) : Int)) (h8 : ζ.1 8 = pickV (ζ.1 1) ((268435455 : Nat) : Int) + 1) (h48 : ζ.1 48 = pickV (ζ.1 2) ((6 : Nat) : Int) + 1) : CalOk Yt Tryz.prog (kp Yt Tryz.prog ζ) natL14 :=
  orC_ok (pick_ok (κ := kp Yt Tryz.prog ζ) (j := 0) (by decide +kernel) hw (by decide) (by decide) hc) (orC_ok (bsy hw1 h8) (orC_ok (tsy hw2 h48) (orC_ok alive_ok (orC_ok (m1 g14_0) (orC_ok (m1 g14_1) (orC_ok (m1 g14_2) (orC_ok (m1 g14_3) (orC_ok (m1 g14_4) (orC_ok (m1 g14_5) (orC_ok (m2 g14_6) nat_ok))))))))))
theorem vk14 : Ver jB (calM prog natL14 60) (kF (fr f9) (.s (.b true))) (kxZ 0 jZ (calM prog natL14 60) (kF (fr f9) (.s (.b true)))) S14 := by
  have := verC_ver ver14 trivial
  rw [List.append_nil] at this
  exact this
theorem sk14 : ∀ s ∈ S14, 0 < s.h.n.n := by
  intro s hs
  have h : (S14.all fun s => Nat.blt 0 s.h.n.n) = true := by decide +kernel
  have := List.all_eq_true.1 h s hs
  rwa [Nat.blt_eq] at this
theorem natk15 (hw : (Lit.int .i64 (ζ.1 0)).wf = true) (hw1 : (Lit.int .i64 (ζ.1 1)).wf = true) (hw2 : (Lit.int .i64 (ζ.1 2)).wf = true) (hc : pickV (ζ.1 0) ((16 : Nat) : Int) = ((15 : Nat) : Int)) (h8 : ζ.1 8 = pickV (ζ.1 1) ((268435455 : Nat) : Int) + 1) (h48 : ζ.1 48 = pickV (ζ.1 2) ((6 : Nat) : Int) + 1) : CalOk Yt Tryz.prog (kp Yt Tryz.prog ζ) natL15 :=
  orC_ok (pick_ok (κ := kp Yt Tryz.prog ζ) (j := 0) (by decide +kernel) hw (by decide) (by decide) hc) (orC_ok (bsy hw1 h8) (orC_ok (tsy hw2 h48) (orC_ok alive_ok (orC_ok (m1 g15_0) (orC_ok (m1 g15_1) (orC_ok (m1 g15_2) (orC_ok (m1 g15_3) (orC_ok (m1 g15_4) (orC_ok (m1 g15_5) (orC_ok (m2 g15_6) nat_ok))))))))))
theorem vk15 : Ver jB (calM prog natL15 60) (kF (fr f9) (.s (.b true))) (kxZ 0 jZ (calM prog natL15 60) (kF (fr f9) (.s (.b true)))) S15 := by
  have := verC_ver ver15 trivial
  rw [List.append_nil] at this
  exact this
theorem sk15 : ∀ s ∈ S15, 0 < s.h.n.n := by
  intro s hs
  have h : (S15.all fun s => Nat.blt 0 s.h.n.n) = true := by decide +kernel
  have := List.all_eq_true.1 h s hs
  rwa [Nat.blt_eq] at this
theorem code9 : Tryz.f9.body = some (seqs [cp1 (bodyOf Tryz.f9), cp1 (cp2 (bodyOf Tryz.f9)), cp1 (cp2 (cp2 (bodyOf Tryz.f9))), cp1 (cp2 (cp2 (cp2 (bodyOf Tryz.f9)))), cp1 (cp2 (cp2 (cp2 (cp2 (bodyOf Tryz.f9))))), cp1 (cp2 (cp2 (cp2 (cp2 (cp2 (bodyOf Tryz.f9)))))), cp1 (cp2 (cp2 (cp2 (cp2 (cp2 (cp2 (bodyOf Tryz.f9))))))), cp1 (cp2 (cp2 (cp2 (cp2 (cp2 (cp2 (cp2 (bodyOf Tryz.f9)))))))), cp1 (cp2 (cp2 (cp2 (cp2 (cp2 (cp2 (cp2 (cp2 (bodyOf Tryz.f9)))))))))] (.seq (.seq (cp1 (cp1 (cp2 (cp2 (cp2 (cp2 (cp2 (cp2 (cp2 (cp2 (cp2 (bodyOf Tryz.f9)))))))))))) (.block 0 (.loop (cp1 (cp1 (cp2 (cp1 (cp2 (cp2 (cp2 (cp2 (cp2 (cp2 (cp2 (cp2 (cp2 (bodyOf Tryz.f9))))))))))))))))) (cp2 (cp2 (cp2 (cp2 (cp2 (cp2 (cp2 (cp2 (cp2 (cp2 (bodyOf Tryz.f9))))))))))))) := by kernel_rfl
theorem cl9 : compWs Yt Tryz.prog Tryz.f9.ntmps [.f, .f, .f, .f, .f, .f, .f, .f, .f] [cp1 (bodyOf Tryz.f9), cp1 (cp2 (bodyOf Tryz.f9)), cp1 (cp2 (cp2 (bodyOf Tryz.f9))), cp1 (cp2 (cp2 (cp2 (bodyOf Tryz.f9)))), cp1 (cp2 (cp2 (cp2 (cp2 (bodyOf Tryz.f9))))), cp1 (cp2 (cp2 (cp2 (cp2 (cp2 (bodyOf Tryz.f9)))))), cp1 (cp2 (cp2 (cp2 (cp2 (cp2 (cp2 (bodyOf Tryz.f9))))))), cp1 (cp2 (cp2 (cp2 (cp2 (cp2 (cp2 (cp2 (bodyOf Tryz.f9)))))))), cp1 (cp2 (cp2 (cp2 (cp2 (cp2 (cp2 (cp2 (cp2 (bodyOf Tryz.f9)))))))))] = some js9 := by kernel_rfl
theorem cI9 : compW Yt Tryz.prog Tryz.f9.ntmps .f (cp1 (cp1 (cp2 (cp2 (cp2 (cp2 (cp2 (cp2 (cp2 (cp2 (cp2 (bodyOf Tryz.f9)))))))))))) = some jI := by kernel_rfl
theorem cB9 : compW Yt Tryz.prog Tryz.f9.ntmps (.s (.s .f (.c .f .f)) .f) (cp1 (cp1 (cp2 (cp1 (cp2 (cp2 (cp2 (cp2 (cp2 (cp2 (cp2 (cp2 (cp2 (bodyOf Tryz.f9)))))))))))))) = some jB := by kernel_rfl
theorem cZ9 : compW Yt Tryz.prog Tryz.f9.ntmps .f (cp2 (cp2 (cp2 (cp2 (cp2 (cp2 (cp2 (cp2 (cp2 (cp2 (bodyOf Tryz.f9))))))))))) = some jZ := by kernel_rfl
theorem cR9 : compR Tryz.prog Tryz.f9.results.toList = some (fr f9) := by kernel_rfl
theorem cN9 : Tryz.f9.ntmps ≤ 576 := by decide +kernel
end
theorem LrarI : ∀ {vs : List Value}, areI [.i64, .i64, .i64] vs → ∃ p0 p1 p2, vs = [.int .i64 p0, .int .i64 p1, .int .i64 p2] ∧ (Lit.int .i64 p0).wf = true ∧ (Lit.int .i64 p1).wf = true ∧ (Lit.int .i64 p2).wf = true
  | [_, _, _], ⟨⟨p0, e0, h0⟩, ⟨p1, e1, h1⟩, ⟨p2, e2, h2⟩, _⟩ => ⟨p0, p1, p2, by rw [e0, e1, e2], h0, h1, h2⟩
  | [], h => h.elim
  | [_], h => h.2.elim
  | [_, _], h => h.2.2.elim
  | _ :: _ :: _ :: _ :: _, h => h.2.2.2.elim
theorem topLines_law : LawI Tryz.prog 9 [.i64, .i64, .i64] fun W => laidMetH Tryz.prog Rows.topLinesRow.laid W := by
  intro W args hW hA
  obtain ⟨l, hl⟩ : ∃ l, l = args.toList := ⟨_, rfl⟩
  rw [← hl] at hA
  obtain ⟨p0, p1, p2, hpq, hp0, hp1, hp2⟩ := LrarI hA
  subst hpq
  obtain ⟨ρ, hρ⟩ : ∃ ρ : Nat → Int, ρ = fun j => if j = 0 then p0 else if j = 1 then p1 else if j = 8 then pickV p1 ((268435455 : Nat) : Int) + 1 else if j = 48 then pickV p2 ((6 : Nat) : Int) + 1 else p2 := ⟨_, rfl⟩
  have hs := symA_is (Y := Yt) (P := Tryz.prog) (g := 0) (ρ := ρ) (β := 0) (j := 0) hA (fun i n hn => by
    rw [hρ]
    match i, hn with
    | 0, hn => simp [intsOf] at hn <;> simp [hn]
    | 1, hn => simp [intsOf] at hn <;> simp [hn]
    | 2, hn => simp [intsOf] at hn <;> simp [hn]
    | i + 3, hn => simp [intsOf] at hn)
  rw [hl] at hs
  have r0 : ρ 0 = p0 := by rw [hρ] <;> rfl
  have r1 : ρ 1 = p1 := by rw [hρ] <;> rfl
  have r2 : ρ 2 = p2 := by rw [hρ] <;> rfl
  have r8 : ρ 8 = pickV p1 ((268435455 : Nat) : Int) + 1 := by rw [hρ] <;> rfl
  have r48 : ρ 48 = pickV p2 ((6 : Nat) : Int) + 1 := by rw [hρ] <;> rfl
  have h0 := tabs_met W hW 0 0 rfl
  have hlt : 0 < W.heap.size := by
    rcases Nat.lt_or_ge 0 W.heap.size with h1 | h1
    · exact h1
    · have : W.heap[0]? = Option.none := Array.getElem?_eq_none h1
      simp [World.cell?, this] at h0
  have hcell : ∀ (i : Nat) s, tabL[i]? = some s → W.cell? ⟨0, i, Option.none⟩ = some (s.tr (env0 Yt Tryz.prog 0 (ρ, 0))) := fun i s h => by
    have hm : tabL = tabZ.map (S.i .u8) := rfl
    rw [hm, List.getElem?_map] at h
    cases hz : tabZ[i]? with
    | none => rw [hz] at h; cases h
    | some n =>
      rw [hz] at h
      cases h
      rw [tabs_met W hW i n hz]
      have hn : n < 32 := by
        have hall : tabZ.all (fun n => decide (n < 32)) = true := by decide
        simpa using List.all_eq_true.1 hall n (List.mem_of_getElem? hz)
      simp only [S.tr]
      rw [vl_lt (by omega)]
  have fin : ∀ {nat : Cal}, CalOk Yt Tryz.prog (kp Yt Tryz.prog (ρ, 0)) nat → valB (calM prog nat 60 (.fn a9 []) (symA [.i64, .i64, .i64] 0) (heap0 tabL)) (.s (.b true)) = true → Calls Tryz.prog 9 args W fun e W' => e = .returned (.bool true) ∧ Still W W' := fun hN hr =>
    law_run mixed progOk hN (g := 0) rfl hlt hcell (by decide) hr hs.1 hs.2 rfl (by simp) rfl
  have hc : pickV p0 ((16 : Nat) : Int) = ((0 : Nat) : Int) ∨ pickV p0 ((16 : Nat) : Int) = ((1 : Nat) : Int) ∨ pickV p0 ((16 : Nat) : Int) = ((2 : Nat) : Int) ∨ pickV p0 ((16 : Nat) : Int) = ((3 : Nat) : Int) ∨ pickV p0 ((16 : Nat) : Int) = ((4 : Nat) : Int) ∨ pickV p0 ((16 : Nat) : Int) = ((5 : Nat) : Int) ∨ pickV p0 ((16 : Nat) : Int) = ((6 : Nat) : Int) ∨ pickV p0 ((16 : Nat) : Int) = ((7 : Nat) : Int) ∨ pickV p0 ((16 : Nat) : Int) = ((8 : Nat) : Int) ∨ pickV p0 ((16 : Nat) : Int) = ((9 : Nat) : Int) ∨ pickV p0 ((16 : Nat) : Int) = ((10 : Nat) : Int) ∨ pickV p0 ((16 : Nat) : Int) = ((11 : Nat) : Int) ∨ pickV p0 ((16 : Nat) : Int) = ((12 : Nat) : Int) ∨ pickV p0 ((16 : Nat) : Int) = ((13 : Nat) : Int) ∨ pickV p0 ((16 : Nat) : Int) = ((14 : Nat) : Int) ∨ pickV p0 ((16 : Nat) : Int) = ((15 : Nat) : Int) := by
    unfold pickV; split <;> omega
  rw [← r0] at hc hp0
  rw [← r1] at hp1 r8
  rw [← r2] at hp2 r48
  have hal : args.size ≤ 576 := by
    have h3 : args.toList.length = 3 := by rw [← hl]; rfl
    have h4 : args.size = args.toList.length := by simp
    omega
  rcases hc with hc | hc | hc | hc | hc | hc | hc | hc | hc | hc | hc | hc | hc | hc | hc | hc
  · exact law_loop mixed progOk (natk0 (ζ := (ρ, 0)) hp0 hp1 hp2 hc r8 r48) (g := 0) rfl hlt hcell (by decide) Tryz.func9 cR9 code9 cl9 cI9 cB9 cZ9 (by decide) run0 vk0 sk0 cN9 hs.1 hal hs.2 rfl (by simp) rfl
  · exact law_loop mixed progOk (natk1 (ζ := (ρ, 0)) hp0 hp1 hp2 hc r8 r48) (g := 0) rfl hlt hcell (by decide) Tryz.func9 cR9 code9 cl9 cI9 cB9 cZ9 (by decide) run1 vk1 sk1 cN9 hs.1 hal hs.2 rfl (by simp) rfl
  · exact law_loop mixed progOk (natk2 (ζ := (ρ, 0)) hp0 hp1 hp2 hc r8 r48) (g := 0) rfl hlt hcell (by decide) Tryz.func9 cR9 code9 cl9 cI9 cB9 cZ9 (by decide) run2 vk2 sk2 cN9 hs.1 hal hs.2 rfl (by simp) rfl
  · exact law_loop mixed progOk (natk3 (ζ := (ρ, 0)) hp0 hp1 hp2 hc r8 r48) (g := 0) rfl hlt hcell (by decide) Tryz.func9 cR9 code9 cl9 cI9 cB9 cZ9 (by decide) run3 vk3 sk3 cN9 hs.1 hal hs.2 rfl (by simp) rfl
  · exact law_loop mixed progOk (natk4 (ζ := (ρ, 0)) hp0 hp1 hp2 hc r8 r48) (g := 0) rfl hlt hcell (by decide) Tryz.func9 cR9 code9 cl9 cI9 cB9 cZ9 (by decide) run4 vk4 sk4 cN9 hs.1 hal hs.2 rfl (by simp) rfl
  · exact law_loop mixed progOk (natk5 (ζ := (ρ, 0)) hp0 hp1 hp2 hc r8 r48) (g := 0) rfl hlt hcell (by decide) Tryz.func9 cR9 code9 cl9 cI9 cB9 cZ9 (by decide) run5 vk5 sk5 cN9 hs.1 hal hs.2 rfl (by simp) rfl
  · exact law_loop mixed progOk (natk6 (ζ := (ρ, 0)) hp0 hp1 hp2 hc r8 r48) (g := 0) rfl hlt hcell (by decide) Tryz.func9 cR9 code9 cl9 cI9 cB9 cZ9 (by decide) run6 vk6 sk6 cN9 hs.1 hal hs.2 rfl (by simp) rfl
  · exact law_loop mixed progOk (natk7 (ζ := (ρ, 0)) hp0 hp1 hp2 hc r8 r48) (g := 0) rfl hlt hcell (by decide) Tryz.func9 cR9 code9 cl9 cI9 cB9 cZ9 (by decide) run7 vk7 sk7 cN9 hs.1 hal hs.2 rfl (by simp) rfl
  · exact law_loop mixed progOk (natk8 (ζ := (ρ, 0)) hp0 hp1 hp2 hc r8 r48) (g := 0) rfl hlt hcell (by decide) Tryz.func9 cR9 code9 cl9 cI9 cB9 cZ9 (by decide) run8 vk8 sk8 cN9 hs.1 hal hs.2 rfl (by simp) rfl
  · exact law_loop mixed progOk (natk9 (ζ := (ρ, 0)) hp0 hp1 hp2 hc r8 r48) (g := 0) rfl hlt hcell (by decide) Tryz.func9 cR9 code9 cl9 cI9 cB9 cZ9 (by decide) run9 vk9 sk9 cN9 hs.1 hal hs.2 rfl (by simp) rfl
  · exact law_loop mixed progOk (natk10 (ζ := (ρ, 0)) hp0 hp1 hp2 hc r8 r48) (g := 0) rfl hlt hcell (by decide) Tryz.func9 cR9 code9 cl9 cI9 cB9 cZ9 (by decide) run10 vk10 sk10 cN9 hs.1 hal hs.2 rfl (by simp) rfl
  · exact law_loop mixed progOk (natk11 (ζ := (ρ, 0)) hp0 hp1 hp2 hc r8 r48) (g := 0) rfl hlt hcell (by decide) Tryz.func9 cR9 code9 cl9 cI9 cB9 cZ9 (by decide) run11 vk11 sk11 cN9 hs.1 hal hs.2 rfl (by simp) rfl
  · exact law_loop mixed progOk (natk12 (ζ := (ρ, 0)) hp0 hp1 hp2 hc r8 r48) (g := 0) rfl hlt hcell (by decide) Tryz.func9 cR9 code9 cl9 cI9 cB9 cZ9 (by decide) run12 vk12 sk12 cN9 hs.1 hal hs.2 rfl (by simp) rfl
  · exact law_loop mixed progOk (natk13 (ζ := (ρ, 0)) hp0 hp1 hp2 hc r8 r48) (g := 0) rfl hlt hcell (by decide) Tryz.func9 cR9 code9 cl9 cI9 cB9 cZ9 (by decide) run13 vk13 sk13 cN9 hs.1 hal hs.2 rfl (by simp) rfl
  · exact law_loop mixed progOk (natk14 (ζ := (ρ, 0)) hp0 hp1 hp2 hc r8 r48) (g := 0) rfl hlt hcell (by decide) Tryz.func9 cR9 code9 cl9 cI9 cB9 cZ9 (by decide) run14 vk14 sk14 cN9 hs.1 hal hs.2 rfl (by simp) rfl
  · exact law_loop mixed progOk (natk15 (ζ := (ρ, 0)) hp0 hp1 hp2 hc r8 r48) (g := 0) rfl hlt hcell (by decide) Tryz.func9 cR9 code9 cl9 cI9 cB9 cZ9 (by decide) run15 vk15 sk15 cN9 hs.1 hal hs.2 rfl (by simp) rfl
end Go.Proofs.YtebgbhgehnpahaaGreatDoor
