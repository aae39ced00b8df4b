/- A part of the proof of the claim that the last text of this folder states. -/
import Derived.Test.YtebgbhgehnpahaaGreatDoorN11
import Derived.Test.YtebgbhgehnpahaaGreatDoorN20
import Derived.Test.YtebgbhgehnpahaaGreatDoorN21
import Derived.Test.YtebgbhgehnpahaaGreatDoorN25
import Derived.Test.YtebgbhgehnpahaaGreatDoorN28
import Derived.Test.YtebgbhgehnpahaaGreatDoorN31
import Derived.Test.YtebgbhgehnpahaaGreatDoorN35
import Derived.Test.YtebgbhgehnpahaaGreatDoorN39
import Derived.Test.YtebgbhgehnpahaaGreatDoorN43
namespace Go.Proofs.YtebgbhgehnpahaaGreatDoor
open Go.E
set_option linter.all false
set_option maxRecDepth 100000
section
variable {ζ : (Nat → Int) × Nat}
theorem m1 {s0 : S} {A : List V} {H : Hp} {v : V} {H' : Hp} (h : runB (calM prog nat 60 s0 A H) v H' = true) : CalOk Yt Tryz.prog (kp Yt Tryz.prog ζ) (memS s0 A H v H') := memS_ok (calM_ok mixed progOk nat_ok 60) h
theorem m2 {s0 : S} {A : List V} {H : Hp} {v : V} {H' : Hp} (h : runB (trimC (calM prog nat 60) s0 A H) v H' = true) : CalOk Yt Tryz.prog (kp Yt Tryz.prog ζ) (memS s0 A H v H') := memS_ok (trimC_ok (calM_ok mixed progOk nat_ok 60)) h
theorem alive_ok : CalOk Yt Tryz.prog (kp Yt Tryz.prog ζ) (memS fa0S fa0A fa0H fa0V fa0R) := memS_ok (trimC_ok (calM_ok mixed progOk (orC_ok (m2 fa4) nat_ok) 60)) fa0
theorem bsy (hw : (Lit.int .i64 (ζ.1 1)).wf = true) (h8 : ζ.1 16 = pickV (ζ.1 1) ((256 : Nat) : Int)) : CalOk Yt Tryz.prog (kp Yt Tryz.prog ζ) (oraC (Pth.of 17) [.s (.i .i64 ((symN + 1 : Nat) : Int)), .s (.i .i64 (.ofNat 256))] (.s (.i .i64 (.ofNat 37797378607030871261184)))) :=
  pick_gen (κ := kp Yt Tryz.prog ζ) (j := 1) (by decide +kernel) hw (by decide) (by decide) fun e hκ => by
    obtain ⟨q1, q2⟩ := pick_rg (a := ζ.1 1) (b := ((256 : Nat) : Int)) (by decide)
    exact fld_val (e := e) (n := 37797378607030871261184) (j := 16) (b := pickV (ζ.1 1) ((256 : Nat) : Int)) (by decide +kernel) (by decide +kernel) (by decide +kernel) (by decide +kernel) (by rw [hκ.2.1]; exact h8) (by
      show ((0 : Nat) : Int) ≤ _
      omega) (by
      show _ ≤ ((255 : Nat) : Int)
      omega)
theorem tsy (hw : (Lit.int .i64 (ζ.1 2)).wf = true) (h8 : ζ.1 32 = pickV (ζ.1 2) ((120 : Nat) : Int)) : CalOk Yt Tryz.prog (kp Yt Tryz.prog ζ) (oraC (Pth.of 17) [.s (.i .i64 ((symN + 2 : Nat) : Int)), .s (.i .i64 (.ofNat 120))] (.s (.i .i64 (.ofNat 75576310469988032970752)))) :=
  pick_gen (κ := kp Yt Tryz.prog ζ) (j := 2) (by decide +kernel) hw (by decide) (by decide) fun e hκ => by
    obtain ⟨q1, q2⟩ := pick_rg (a := ζ.1 2) (b := ((120 : Nat) : Int)) (by decide)
    exact fld_val (e := e) (n := 75576310469988032970752) (j := 32) (b := pickV (ζ.1 2) ((120 : Nat) : Int)) (by decide +kernel) (by decide +kernel) (by decide +kernel) (by decide +kernel) (by rw [hκ.2.1]; exact h8) (by
      show ((0 : Nat) : Int) ≤ _
      omega) (by
      show _ ≤ ((119 : Nat) : Int)
      omega)
theorem natk0 (hw : (Lit.int .i64 (ζ.1 0)).wf = true) (hw1 : (Lit.int .i64 (ζ.1 1)).wf = true) (hw2 : (Lit.int .i64 (ζ.1 2)).wf = true) (hc : pickV (ζ.1 0) ((6 : Nat) : Int) = ((0 : Nat) : Int)) (h8 : ζ.1 16 = pickV (ζ.1 1) ((256 : Nat) : Int)) (h48 : ζ.1 32 = pickV (ζ.1 2) ((120 : Nat) : Int)) : CalOk Yt Tryz.prog (kp Yt Tryz.prog ζ) natN0 :=
  orC_ok (pick_ok (κ := kp Yt Tryz.prog ζ) (j := 0) (by decide +kernel) hw (by decide) (by decide) hc) (orC_ok (bsy hw1 h8) (orC_ok (tsy hw2 h48) (orC_ok alive_ok (orC_ok (m1 gb0) (orC_ok (m1 e0_10) (orC_ok (m1 e0_11) (orC_ok (m1 e0_12) (orC_ok (m1 e0_13) (orC_ok (m1 e0_14) (orC_ok (m1 e0_15) (orC_ok (m1 e0_16) (orC_ok (m1 e0_17) (orC_ok (m1 e0_18) (orC_ok (m1 e0_19) nat_ok))))))))))))))
theorem vk0 : Ver jB (calM prog natN0 60) (kF (fr f4) (.s (.b true))) (kxZ 2 jZ (calM prog natN0 60) (kF (fr f4) (.s (.b true)))) S0 :=
  verC_ver ver0_0 (verC_ver ver0_1 (verC_ver ver0_2 (by
    have := verC_ver ver0_3 trivial
    rw [List.append_nil] at this
    exact this)))
theorem sk0 : ∀ s ∈ S0, 0 < s.h.n.n := by
  intro s hs
  have h : (S0.all fun s => Nat.blt 0 s.h.n.n) = true := by decide +kernel
  have := List.all_eq_true.1 h s hs
  rwa [Nat.blt_eq] at this
theorem natk1 (hw : (Lit.int .i64 (ζ.1 0)).wf = true) (hw1 : (Lit.int .i64 (ζ.1 1)).wf = true) (hw2 : (Lit.int .i64 (ζ.1 2)).wf = true) (hc : pickV (ζ.1 0) ((6 : Nat) : Int) = ((1 : Nat) : Int)) (h8 : ζ.1 16 = pickV (ζ.1 1) ((256 : Nat) : Int)) (h48 : ζ.1 32 = pickV (ζ.1 2) ((120 : Nat) : Int)) : CalOk Yt Tryz.prog (kp Yt Tryz.prog ζ) natN1 :=
  orC_ok (pick_ok (κ := kp Yt Tryz.prog ζ) (j := 0) (by decide +kernel) hw (by decide) (by decide) hc) (orC_ok (bsy hw1 h8) (orC_ok (tsy hw2 h48) (orC_ok alive_ok (orC_ok (m1 gb1) (orC_ok (m1 e1_10) (orC_ok (m1 e1_11) (orC_ok (m1 e1_12) (orC_ok (m1 e1_13) (orC_ok (m1 e1_14) (orC_ok (m1 e1_15) (orC_ok (m1 e1_16) (orC_ok (m1 e1_17) (orC_ok (m1 e1_18) (orC_ok (m1 e1_19) (orC_ok (m1 e1_20) (orC_ok (m1 e1_21) (orC_ok (m1 e1_22) (orC_ok (m1 e1_23) (orC_ok (m1 e1_24) nat_ok)))))))))))))))))))
theorem vk1 : Ver jB (calM prog natN1 60) (kF (fr f4) (.s (.b true))) (kxZ 2 jZ (calM prog natN1 60) (kF (fr f4) (.s (.b true)))) S1 :=
  verC_ver ver1_0 (verC_ver ver1_1 (verC_ver ver1_2 (by
    have := verC_ver ver1_3 trivial
    rw [List.append_nil] at this
    exact this)))
theorem sk1 : ∀ s ∈ S1, 0 < s.h.n.n := by
  intro s hs
  have h : (S1.all fun s => Nat.blt 0 s.h.n.n) = true := by decide +kernel
  have := List.all_eq_true.1 h s hs
  rwa [Nat.blt_eq] at this
theorem natk2 (hw : (Lit.int .i64 (ζ.1 0)).wf = true) (hw1 : (Lit.int .i64 (ζ.1 1)).wf = true) (hw2 : (Lit.int .i64 (ζ.1 2)).wf = true) (hc : pickV (ζ.1 0) ((6 : Nat) : Int) = ((2 : Nat) : Int)) (h8 : ζ.1 16 = pickV (ζ.1 1) ((256 : Nat) : Int)) (h48 : ζ.1 32 = pickV (ζ.1 2) ((120 : Nat) : Int)) : CalOk Yt Tryz.prog (kp Yt Tryz.prog ζ) natN2 :=
  orC_ok (pick_ok (κ := kp Yt Tryz.prog ζ) (j := 0) (by decide +kernel) hw (by decide) (by decide) hc) (orC_ok (bsy hw1 h8) (orC_ok (tsy hw2 h48) (orC_ok alive_ok (orC_ok (m1 gb2) (orC_ok (m1 e2_10) (orC_ok (m1 e2_11) (orC_ok (m1 e2_12) (orC_ok (m1 e2_13) (orC_ok (m1 e2_14) (orC_ok (m1 e2_15) (orC_ok (m1 e2_16) (orC_ok (m1 e2_17) (orC_ok (m1 e2_18) (orC_ok (m1 e2_19) (orC_ok (m1 e2_20) (orC_ok (m1 e2_21) (orC_ok (m1 e2_22) (orC_ok (m1 e2_23) (orC_ok (m1 e2_24) (orC_ok (m1 e2_25) (orC_ok (m1 e2_26) (orC_ok (m1 e2_27) (orC_ok (m1 e2_28) (orC_ok (m1 e2_29) nat_ok))))))))))))))))))))))))
theorem vk2 : Ver jB (calM prog natN2 60) (kF (fr f4) (.s (.b true))) (kxZ 2 jZ (calM prog natN2 60) (kF (fr f4) (.s (.b true)))) S2 :=
  verC_ver ver2_0 (verC_ver ver2_1 (verC_ver ver2_2 (by
    have := verC_ver ver2_3 trivial
    rw [List.append_nil] at this
    exact this)))
theorem sk2 : ∀ s ∈ S2, 0 < s.h.n.n := by
  intro s hs
  have h : (S2.all fun s => Nat.blt 0 s.h.n.n) = true := by decide +kernel
  have := List.all_eq_true.1 h s hs
  rwa [Nat.blt_eq] at this
theorem natk3 (hw : (Lit.int .i64 (ζ.1 0)).wf = true) (hw1 : (Lit.int .i64 (ζ.1 1)).wf = true) (hw2 : (Lit.int .i64 (ζ.1 2)).wf = true) (hc : pickV (ζ.1 0) ((6 : Nat) : Int) = ((3 : Nat) : Int)) (h8 : ζ.1 16 = pickV (ζ.1 1) ((256 : Nat) : Int)) (h48 : ζ.1 32 = pickV (ζ.1 2) ((120 : Nat) : Int)) : CalOk Yt Tryz.prog (kp Yt Tryz.prog ζ) natN3 :=
  orC_ok (pick_ok (κ := kp Yt Tryz.prog ζ) (j := 0) (by decide +kernel) hw (by decide) (by decide) hc) (orC_ok (bsy hw1 h8) (orC_ok (tsy hw2 h48) (orC_ok alive_ok (orC_ok (m1 gb3) (orC_ok (m1 e3_10) (orC_ok (m1 e3_11) (orC_ok (m1 e3_12) (orC_ok (m1 e3_13) (orC_ok (m1 e3_14) (orC_ok (m1 e3_15) (orC_ok (m1 e3_16) (orC_ok (m1 e3_17) (orC_ok (m1 e3_18) (orC_ok (m1 e3_19) (orC_ok (m1 e3_20) (orC_ok (m1 e3_21) (orC_ok (m1 e3_22) (orC_ok (m1 e3_23) (orC_ok (m1 e3_24) (orC_ok (m1 e3_25) (orC_ok (m1 e3_26) (orC_ok (m1 e3_27) (orC_ok (m1 e3_28) (orC_ok (m1 e3_29) (orC_ok (m1 e3_30) (orC_ok (m1 e3_31) (orC_ok (m1 e3_32) (orC_ok (m1 e3_33) (orC_ok (m1 e3_34) nat_ok)))))))))))))))))))))))))))))
theorem vk3 : Ver jB (calM prog natN3 60) (kF (fr f4) (.s (.b true))) (kxZ 2 jZ (calM prog natN3 60) (kF (fr f4) (.s (.b true)))) S3 :=
  verC_ver ver3_0 (verC_ver ver3_1 (verC_ver ver3_2 (by
    have := verC_ver ver3_3 trivial
    rw [List.append_nil] at this
    exact this)))
theorem sk3 : ∀ s ∈ S3, 0 < s.h.n.n := by
  intro s hs
  have h : (S3.all fun s => Nat.blt 0 s.h.n.n) = true := by decide +kernel
  have := List.all_eq_true.1 h s hs
  rwa [Nat.blt_eq] at this
theorem natk4 (hw : (Lit.int .i64 (ζ.1 0)).wf = true) (hw1 : (Lit.int .i64 (ζ.1 1)).wf = true) (hw2 : (Lit.int .i64 (ζ.1 2)).wf = true) (hc : pickV (ζ.1 0) ((6 : Nat) : Int) = ((4 : Nat) : Int)) (h8 : ζ.1 16 = pickV (ζ.1 1) ((256 : Nat) : Int)) (h48 : ζ.1 32 = pickV (ζ.1 2) ((120 : Nat) : Int)) : CalOk Yt Tryz.prog (kp Yt Tryz.prog ζ) natN4 :=
  orC_ok (pick_ok (κ := kp Yt Tryz.prog ζ) (j := 0) (by decide +kernel) hw (by decide) (by decide) hc) (orC_ok (bsy hw1 h8) (orC_ok (tsy hw2 h48) (orC_ok alive_ok (orC_ok (m1 gb4) (orC_ok (m1 e4_10) (orC_ok (m1 e4_11) (orC_ok (m1 e4_12) (orC_ok (m1 e4_13) (orC_ok (m1 e4_14) (orC_ok (m1 e4_15) (orC_ok (m1 e4_16) (orC_ok (m1 e4_17) (orC_ok (m1 e4_18) (orC_ok (m1 e4_19) (orC_ok (m1 e4_20) (orC_ok (m1 e4_21) (orC_ok (m1 e4_22) (orC_ok (m1 e4_23) (orC_ok (m1 e4_24) (orC_ok (m1 e4_25) (orC_ok (m1 e4_26) (orC_ok (m1 e4_27) (orC_ok (m1 e4_28) (orC_ok (m1 e4_29) (orC_ok (m1 e4_30) (orC_ok (m1 e4_31) (orC_ok (m1 e4_32) (orC_ok (m1 e4_33) (orC_ok (m1 e4_34) (orC_ok (m1 e4_35) (orC_ok (m1 e4_36) (orC_ok (m1 e4_37) (orC_ok (m1 e4_38) (orC_ok (m1 e4_39) nat_ok))))))))))))))))))))))))))))))))))
theorem vk4 : Ver jB (calM prog natN4 60) (kF (fr f4) (.s (.b true))) (kxZ 2 jZ (calM prog natN4 60) (kF (fr f4) (.s (.b true)))) S4 :=
  verC_ver ver4_0 (verC_ver ver4_1 (verC_ver ver4_2 (by
    have := verC_ver ver4_3 trivial
    rw [List.append_nil] at this
    exact this)))
theorem sk4 : ∀ s ∈ S4, 0 < s.h.n.n := by
  intro s hs
  have h : (S4.all fun s => Nat.blt 0 s.h.n.n) = true := by decide +kernel
  have := List.all_eq_true.1 h s hs
  rwa [Nat.blt_eq] at this
theorem natk5 (hw : (Lit.int .i64 (ζ.1 0)).wf = true) (hw1 : (Lit.int .i64 (ζ.1 1)).wf = true) (hw2 : (Lit.int .i64 (ζ.1 2)).wf = true) (hc : pickV (ζ.1 0) ((6 : Nat) : Int) = ((5 : Nat) : Int)) (h8 : ζ.1 16 = pickV (ζ.1 1) ((256 : Nat) : Int)) (h48 : ζ.1 32 = pickV (ζ.1 2) ((120 : Nat) : Int)) : CalOk Yt Tryz.prog (kp Yt Tryz.prog ζ) natN5 :=
  orC_ok (pick_ok (κ := kp Yt Tryz.prog ζ) (j := 0) (by decide +kernel) hw (by decide) (by decide) hc) (orC_ok (bsy hw1 h8) (orC_ok (tsy hw2 h48) (orC_ok alive_ok (orC_ok (m1 gb5) (orC_ok (m1 e5_10) (orC_ok (m1 e5_11) (orC_ok (m1 e5_12) (orC_ok (m1 e5_13) (orC_ok (m1 e5_14) (orC_ok (m1 e5_15) (orC_ok (m1 e5_16) (orC_ok (m1 e5_17) (orC_ok (m1 e5_18) (orC_ok (m1 e5_19) (orC_ok (m1 e5_20) (orC_ok (m1 e5_21) (orC_ok (m1 e5_22) (orC_ok (m1 e5_23) (orC_ok (m1 e5_24) (orC_ok (m1 e5_25) (orC_ok (m1 e5_26) (orC_ok (m1 e5_27) (orC_ok (m1 e5_28) (orC_ok (m1 e5_29) (orC_ok (m1 e5_30) (orC_ok (m1 e5_31) (orC_ok (m1 e5_32) (orC_ok (m1 e5_33) (orC_ok (m1 e5_34) (orC_ok (m1 e5_35) (orC_ok (m1 e5_36) (orC_ok (m1 e5_37) (orC_ok (m1 e5_38) (orC_ok (m1 e5_39) (orC_ok (m1 e5_40) (orC_ok (m1 e5_41) (orC_ok (m1 e5_42) (orC_ok (m1 e5_43) (orC_ok (m1 e5_44) nat_ok)))))))))))))))))))))))))))))))))))))))
theorem vk5 : Ver jB (calM prog natN5 60) (kF (fr f4) (.s (.b true))) (kxZ 2 jZ (calM prog natN5 60) (kF (fr f4) (.s (.b true)))) S5 :=
  verC_ver ver5_0 (verC_ver ver5_1 (verC_ver ver5_2 (by
    have := verC_ver ver5_3 trivial
    rw [List.append_nil] at this
    exact this)))
theorem sk5 : ∀ s ∈ S5, 0 < s.h.n.n := by
  intro s hs
  have h : (S5.all fun s => Nat.blt 0 s.h.n.n) = true := by decide +kernel
  have := List.all_eq_true.1 h s hs
  rwa [Nat.blt_eq] at this
theorem codeN : Tryz.f4.body = some (seqs [cp1 (bodyOf Tryz.f4), cp1 (cp2 (bodyOf Tryz.f4)), cp1 (cp2 (cp2 (bodyOf Tryz.f4))), cp1 (cp2 (cp2 (cp2 (bodyOf Tryz.f4)))), cp1 (cp2 (cp2 (cp2 (cp2 (bodyOf Tryz.f4))))), cp1 (cp2 (cp2 (cp2 (cp2 (cp2 (bodyOf Tryz.f4)))))), cp1 (cp2 (cp2 (cp2 (cp2 (cp2 (cp2 (bodyOf Tryz.f4)))))))] (.seq (.seq (cp1 (cp1 (cp2 (cp2 (cp2 (cp2 (cp2 (cp2 (cp2 (bodyOf Tryz.f4)))))))))) (.block 2 (.loop (cp1 (cp1 (cp2 (cp1 (cp2 (cp2 (cp2 (cp2 (cp2 (cp2 (cp2 (bodyOf Tryz.f4))))))))))))))) (cp2 (cp2 (cp2 (cp2 (cp2 (cp2 (cp2 (cp2 (bodyOf Tryz.f4))))))))))) := by kernel_rfl
theorem clN : compWs Yt Tryz.prog Tryz.f4.ntmps [.f, .f, .f, .f, .f, .f, .f] [cp1 (bodyOf Tryz.f4), cp1 (cp2 (bodyOf Tryz.f4)), cp1 (cp2 (cp2 (bodyOf Tryz.f4))), cp1 (cp2 (cp2 (cp2 (bodyOf Tryz.f4)))), cp1 (cp2 (cp2 (cp2 (cp2 (bodyOf Tryz.f4))))), cp1 (cp2 (cp2 (cp2 (cp2 (cp2 (bodyOf Tryz.f4)))))), cp1 (cp2 (cp2 (cp2 (cp2 (cp2 (cp2 (bodyOf Tryz.f4)))))))] = some jsN := by kernel_rfl
theorem cIN : compW Yt Tryz.prog Tryz.f4.ntmps .f (cp1 (cp1 (cp2 (cp2 (cp2 (cp2 (cp2 (cp2 (cp2 (bodyOf Tryz.f4)))))))))) = some jI := by kernel_rfl
theorem cBN : compW Yt Tryz.prog Tryz.f4.ntmps (.s (.s .f (.c .f .f)) .f) (cp1 (cp1 (cp2 (cp1 (cp2 (cp2 (cp2 (cp2 (cp2 (cp2 (cp2 (bodyOf Tryz.f4)))))))))))) = some jB := by kernel_rfl
theorem cZN : compW Yt Tryz.prog Tryz.f4.ntmps .f (cp2 (cp2 (cp2 (cp2 (cp2 (cp2 (cp2 (cp2 (bodyOf Tryz.f4))))))))) = some jZ := by kernel_rfl
theorem cRN : compR Tryz.prog Tryz.f4.results.toList = some (fr f4) := by kernel_rfl
theorem cNN : Tryz.f4.ntmps ≤ 576 := by decide +kernel
end
theorem NrarI : ∀ {vs : List Value}, areI [.i64, .i64, .i64] vs → ∃ p0 p1 p2, vs = [.int .i64 p0, .int .i64 p1, .int .i64 p2] ∧ (Lit.int .i64 p0).wf = true ∧ (Lit.int .i64 p1).wf = true ∧ (Lit.int .i64 p2).wf = true
  | [_, _, _], ⟨⟨p0, e0, h0⟩, ⟨p1, e1, h1⟩, ⟨p2, e2, h2⟩, _⟩ => ⟨p0, p1, p2, by rw [e0, e1, e2], h0, h1, h2⟩
  | [], h => h.elim
  | [_], h => h.2.elim
  | [_, _], h => h.2.2.elim
  | _ :: _ :: _ :: _ :: _, h => h.2.2.2.elim
theorem topTurns_law : LawI Tryz.prog 4 [.i64, .i64, .i64] fun W => laidMetH Tryz.prog Rows.topTurnsRow.laid W := by
  intro W args hW hA
  obtain ⟨l, hl⟩ : ∃ l, l = args.toList := ⟨_, rfl⟩
  rw [← hl] at hA
  obtain ⟨p0, p1, p2, hpq, hp0, hp1, hp2⟩ := NrarI hA
  subst hpq
  obtain ⟨ρ, hρ⟩ : ∃ ρ : Nat → Int, ρ = fun j => if j = 0 then p0 else if j = 1 then p1 else if j = 16 then pickV p1 ((256 : Nat) : Int) else if j = 32 then pickV p2 ((120 : Nat) : Int) else p2 := ⟨_, rfl⟩
  have hs := symA_is (Y := Yt) (P := Tryz.prog) (g := 0) (ρ := ρ) (β := 0) (j := 0) hA (fun i n hn => by
    rw [hρ]
    match i, hn with
    | 0, hn => simp [intsOf] at hn <;> simp [hn]
    | 1, hn => simp [intsOf] at hn <;> simp [hn]
    | 2, hn => simp [intsOf] at hn <;> simp [hn]
    | i + 3, hn => simp [intsOf] at hn)
  rw [hl] at hs
  have r0 : ρ 0 = p0 := by rw [hρ] <;> rfl
  have r1 : ρ 1 = p1 := by rw [hρ] <;> rfl
  have r2 : ρ 2 = p2 := by rw [hρ] <;> rfl
  have r8 : ρ 16 = pickV p1 ((256 : Nat) : Int) := by rw [hρ] <;> rfl
  have r48 : ρ 32 = pickV p2 ((120 : Nat) : Int) := by rw [hρ] <;> rfl
  have h0 := tabs_met W hW 0 0 rfl
  have hlt : 0 < W.heap.size := by
    rcases Nat.lt_or_ge 0 W.heap.size with h1 | h1
    · exact h1
    · have : W.heap[0]? = Option.none := Array.getElem?_eq_none h1
      simp [World.cell?, this] at h0
  have hcell : ∀ (i : Nat) s, tabL[i]? = some s → W.cell? ⟨0, i, Option.none⟩ = some (s.tr (env0 Yt Tryz.prog 0 (ρ, 0))) := fun i s h => by
    have hm : tabL = tabZ.map (S.i .u8) := rfl
    rw [hm, List.getElem?_map] at h
    cases hz : tabZ[i]? with
    | none => rw [hz] at h; cases h
    | some n =>
      rw [hz] at h
      cases h
      rw [tabs_met W hW i n hz]
      have hn : n < 32 := by
        have hall : tabZ.all (fun n => decide (n < 32)) = true := by decide
        simpa using List.all_eq_true.1 hall n (List.mem_of_getElem? hz)
      simp only [S.tr]
      rw [vl_lt (by omega)]
  have fin : ∀ {nat : Cal}, CalOk Yt Tryz.prog (kp Yt Tryz.prog (ρ, 0)) nat → valB (calM prog nat 60 (.fn a4 []) (symA [.i64, .i64, .i64] 0) (heap0 tabL)) (.s (.b true)) = true → Calls Tryz.prog 4 args W fun e W' => e = .returned (.bool true) ∧ Still W W' := fun hN hr =>
    law_run mixed progOk hN (g := 0) rfl hlt hcell (by decide) hr hs.1 hs.2 rfl (by simp) rfl
  have hc : pickV p0 ((6 : Nat) : Int) = ((0 : Nat) : Int) ∨ pickV p0 ((6 : Nat) : Int) = ((1 : Nat) : Int) ∨ pickV p0 ((6 : Nat) : Int) = ((2 : Nat) : Int) ∨ pickV p0 ((6 : Nat) : Int) = ((3 : Nat) : Int) ∨ pickV p0 ((6 : Nat) : Int) = ((4 : Nat) : Int) ∨ pickV p0 ((6 : Nat) : Int) = ((5 : Nat) : Int) := by
    unfold pickV; split <;> omega
  rw [← r0] at hc hp0
  rw [← r1] at hp1 r8
  rw [← r2] at hp2 r48
  have hal : args.size ≤ 576 := by
    have h3 : args.toList.length = 3 := by rw [← hl]; rfl
    have h4 : args.size = args.toList.length := by simp
    omega
  rcases hc with hc | hc | hc | hc | hc | hc
  · exact law_loop mixed progOk (natk0 (ζ := (ρ, 0)) hp0 hp1 hp2 hc r8 r48) (g := 0) rfl hlt hcell (by decide) Tryz.func4 cRN codeN clN cIN cBN cZN (by decide) run0 vk0 sk0 cNN hs.1 hal hs.2 rfl (by simp) rfl
  · exact law_loop mixed progOk (natk1 (ζ := (ρ, 0)) hp0 hp1 hp2 hc r8 r48) (g := 0) rfl hlt hcell (by decide) Tryz.func4 cRN codeN clN cIN cBN cZN (by decide) run1 vk1 sk1 cNN hs.1 hal hs.2 rfl (by simp) rfl
  · exact law_loop mixed progOk (natk2 (ζ := (ρ, 0)) hp0 hp1 hp2 hc r8 r48) (g := 0) rfl hlt hcell (by decide) Tryz.func4 cRN codeN clN cIN cBN cZN (by decide) run2 vk2 sk2 cNN hs.1 hal hs.2 rfl (by simp) rfl
  · exact law_loop mixed progOk (natk3 (ζ := (ρ, 0)) hp0 hp1 hp2 hc r8 r48) (g := 0) rfl hlt hcell (by decide) Tryz.func4 cRN codeN clN cIN cBN cZN (by decide) run3 vk3 sk3 cNN hs.1 hal hs.2 rfl (by simp) rfl
  · exact law_loop mixed progOk (natk4 (ζ := (ρ, 0)) hp0 hp1 hp2 hc r8 r48) (g := 0) rfl hlt hcell (by decide) Tryz.func4 cRN codeN clN cIN cBN cZN (by decide) run4 vk4 sk4 cNN hs.1 hal hs.2 rfl (by simp) rfl
  · exact law_loop mixed progOk (natk5 (ζ := (ρ, 0)) hp0 hp1 hp2 hc r8 r48) (g := 0) rfl hlt hcell (by decide) Tryz.func4 cRN codeN clN cIN cBN cZN (by decide) run5 vk5 sk5 cNN hs.1 hal hs.2 rfl (by simp) rfl
end Go.Proofs.YtebgbhgehnpahaaGreatDoor
