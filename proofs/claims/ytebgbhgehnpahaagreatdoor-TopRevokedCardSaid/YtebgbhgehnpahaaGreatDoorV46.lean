/- A part of the proof of the claim that the last text of this folder states. -/
import Derived.Test.YtebgbhgehnpahaaGreatDoorV16
import Derived.Test.YtebgbhgehnpahaaGreatDoorV27
import Derived.Test.YtebgbhgehnpahaaGreatDoorV28
import Derived.Test.YtebgbhgehnpahaaGreatDoorV31
import Derived.Test.YtebgbhgehnpahaaGreatDoorV32
import Derived.Test.YtebgbhgehnpahaaGreatDoorV33
import Derived.Test.YtebgbhgehnpahaaGreatDoorV34
import Derived.Test.YtebgbhgehnpahaaGreatDoorV35
import Derived.Test.YtebgbhgehnpahaaGreatDoorV36
import Derived.Test.YtebgbhgehnpahaaGreatDoorV37
import Derived.Test.YtebgbhgehnpahaaGreatDoorV38
import Derived.Test.YtebgbhgehnpahaaGreatDoorV39
import Derived.Test.YtebgbhgehnpahaaGreatDoorV40
import Derived.Test.YtebgbhgehnpahaaGreatDoorV41
import Derived.Test.YtebgbhgehnpahaaGreatDoorV42
import Derived.Test.YtebgbhgehnpahaaGreatDoorV43
import Derived.Test.YtebgbhgehnpahaaGreatDoorV44
import Derived.Test.YtebgbhgehnpahaaGreatDoorV45
namespace Go.Proofs.YtebgbhgehnpahaaGreatDoor
open Go.E
set_option linter.all false
set_option maxRecDepth 100000
section
variable {ζ : (Nat → Int) × Nat}
theorem m1 {s0 : S} {A : List V} {H : Hp} {v : V} {H' : Hp} (h : runB (calM prog nat 60 s0 A H) v H' = true) : CalOk Yt Tryz.prog (kp Yt Tryz.prog ζ) (memS s0 A H v H') := memS_ok (calM_ok mixed progOk nat_ok 60) h
theorem m2 {s0 : S} {A : List V} {H : Hp} {v : V} {H' : Hp} (h : runB (trimC (calM prog nat 60) s0 A H) v H' = true) : CalOk Yt Tryz.prog (kp Yt Tryz.prog ζ) (memS s0 A H v H') := memS_ok (trimC_ok (calM_ok mixed progOk nat_ok 60)) h
theorem alive_ok : CalOk Yt Tryz.prog (kp Yt Tryz.prog ζ) (memS fa0S fa0A fa0H fa0V fa0R) := memS_ok (trimC_ok (calM_ok mixed progOk (orC_ok (m2 fa4) nat_ok) 60)) fa0
theorem natk0 (hw : (Lit.int .i64 (ζ.1 0)).wf = true) (hc : pickV (ζ.1 0) ((30 : Nat) : Int) = ((0 : Nat) : Int)) : CalOk Yt Tryz.prog (kp Yt Tryz.prog ζ) natV0 :=
  orC_ok (pick_ok (κ := kp Yt Tryz.prog ζ) (j := 0) (by decide +kernel) hw (by decide) (by decide) hc) (orC_ok alive_ok (orC_ok (m1 fb3) (orC_ok (m1 ga0) (orC_ok (m1 gb0) nat_ok))))
theorem natk1 (hw : (Lit.int .i64 (ζ.1 0)).wf = true) (hc : pickV (ζ.1 0) ((30 : Nat) : Int) = ((1 : Nat) : Int)) : CalOk Yt Tryz.prog (kp Yt Tryz.prog ζ) natV1 :=
  orC_ok (pick_ok (κ := kp Yt Tryz.prog ζ) (j := 0) (by decide +kernel) hw (by decide) (by decide) hc) (orC_ok alive_ok (orC_ok (m1 fb3) (orC_ok (m1 ga1) (orC_ok (m1 gb1) nat_ok))))
theorem natk2 (hw : (Lit.int .i64 (ζ.1 0)).wf = true) (hc : pickV (ζ.1 0) ((30 : Nat) : Int) = ((2 : Nat) : Int)) : CalOk Yt Tryz.prog (kp Yt Tryz.prog ζ) natV2 :=
  orC_ok (pick_ok (κ := kp Yt Tryz.prog ζ) (j := 0) (by decide +kernel) hw (by decide) (by decide) hc) (orC_ok alive_ok (orC_ok (m1 fb3) (orC_ok (m1 ga2) (orC_ok (m1 gb2) nat_ok))))
theorem natk3 (hw : (Lit.int .i64 (ζ.1 0)).wf = true) (hc : pickV (ζ.1 0) ((30 : Nat) : Int) = ((3 : Nat) : Int)) : CalOk Yt Tryz.prog (kp Yt Tryz.prog ζ) natV3 :=
  orC_ok (pick_ok (κ := kp Yt Tryz.prog ζ) (j := 0) (by decide +kernel) hw (by decide) (by decide) hc) (orC_ok alive_ok (orC_ok (m1 fb3) (orC_ok (m1 ga3) (orC_ok (m1 gb3) nat_ok))))
theorem natk4 (hw : (Lit.int .i64 (ζ.1 0)).wf = true) (hc : pickV (ζ.1 0) ((30 : Nat) : Int) = ((4 : Nat) : Int)) : CalOk Yt Tryz.prog (kp Yt Tryz.prog ζ) natV4 :=
  orC_ok (pick_ok (κ := kp Yt Tryz.prog ζ) (j := 0) (by decide +kernel) hw (by decide) (by decide) hc) (orC_ok alive_ok (orC_ok (m1 fb3) (orC_ok (m1 ga4) (orC_ok (m1 gb4) nat_ok))))
theorem natk5 (hw : (Lit.int .i64 (ζ.1 0)).wf = true) (hc : pickV (ζ.1 0) ((30 : Nat) : Int) = ((5 : Nat) : Int)) : CalOk Yt Tryz.prog (kp Yt Tryz.prog ζ) natV5 :=
  orC_ok (pick_ok (κ := kp Yt Tryz.prog ζ) (j := 0) (by decide +kernel) hw (by decide) (by decide) hc) (orC_ok alive_ok (orC_ok (m1 fb3) (orC_ok (m1 ga5) (orC_ok (m1 gb5) nat_ok))))
theorem natk6 (hw : (Lit.int .i64 (ζ.1 0)).wf = true) (hc : pickV (ζ.1 0) ((30 : Nat) : Int) = ((6 : Nat) : Int)) : CalOk Yt Tryz.prog (kp Yt Tryz.prog ζ) natV6 :=
  orC_ok (pick_ok (κ := kp Yt Tryz.prog ζ) (j := 0) (by decide +kernel) hw (by decide) (by decide) hc) (orC_ok alive_ok (orC_ok (m1 fb3) (orC_ok (m1 ga6) (orC_ok (m1 gb6) nat_ok))))
theorem natk7 (hw : (Lit.int .i64 (ζ.1 0)).wf = true) (hc : pickV (ζ.1 0) ((30 : Nat) : Int) = ((7 : Nat) : Int)) : CalOk Yt Tryz.prog (kp Yt Tryz.prog ζ) natV7 :=
  orC_ok (pick_ok (κ := kp Yt Tryz.prog ζ) (j := 0) (by decide +kernel) hw (by decide) (by decide) hc) (orC_ok alive_ok (orC_ok (m1 fb3) (orC_ok (m1 ga7) (orC_ok (m1 gb7) nat_ok))))
theorem natk8 (hw : (Lit.int .i64 (ζ.1 0)).wf = true) (hc : pickV (ζ.1 0) ((30 : Nat) : Int) = ((8 : Nat) : Int)) : CalOk Yt Tryz.prog (kp Yt Tryz.prog ζ) natV8 :=
  orC_ok (pick_ok (κ := kp Yt Tryz.prog ζ) (j := 0) (by decide +kernel) hw (by decide) (by decide) hc) (orC_ok alive_ok (orC_ok (m1 fb3) (orC_ok (m1 ga8) (orC_ok (m1 gb8) nat_ok))))
theorem natk9 (hw : (Lit.int .i64 (ζ.1 0)).wf = true) (hc : pickV (ζ.1 0) ((30 : Nat) : Int) = ((9 : Nat) : Int)) : CalOk Yt Tryz.prog (kp Yt Tryz.prog ζ) natV9 :=
  orC_ok (pick_ok (κ := kp Yt Tryz.prog ζ) (j := 0) (by decide +kernel) hw (by decide) (by decide) hc) (orC_ok alive_ok (orC_ok (m1 fb3) (orC_ok (m1 ga9) (orC_ok (m1 gb9) nat_ok))))
theorem natk10 (hw : (Lit.int .i64 (ζ.1 0)).wf = true) (hc : pickV (ζ.1 0) ((30 : Nat) : Int) = ((10 : Nat) : Int)) : CalOk Yt Tryz.prog (kp Yt Tryz.prog ζ) natV10 :=
  orC_ok (pick_ok (κ := kp Yt Tryz.prog ζ) (j := 0) (by decide +kernel) hw (by decide) (by decide) hc) (orC_ok alive_ok (orC_ok (m1 fb3) (orC_ok (m1 ga10) (orC_ok (m1 gb10) nat_ok))))
theorem natk11 (hw : (Lit.int .i64 (ζ.1 0)).wf = true) (hc : pickV (ζ.1 0) ((30 : Nat) : Int) = ((11 : Nat) : Int)) : CalOk Yt Tryz.prog (kp Yt Tryz.prog ζ) natV11 :=
  orC_ok (pick_ok (κ := kp Yt Tryz.prog ζ) (j := 0) (by decide +kernel) hw (by decide) (by decide) hc) (orC_ok alive_ok (orC_ok (m1 fb3) (orC_ok (m1 ga11) (orC_ok (m1 gb11) nat_ok))))
theorem natk12 (hw : (Lit.int .i64 (ζ.1 0)).wf = true) (hc : pickV (ζ.1 0) ((30 : Nat) : Int) = ((12 : Nat) : Int)) : CalOk Yt Tryz.prog (kp Yt Tryz.prog ζ) natV12 :=
  orC_ok (pick_ok (κ := kp Yt Tryz.prog ζ) (j := 0) (by decide +kernel) hw (by decide) (by decide) hc) (orC_ok alive_ok (orC_ok (m1 fb3) (orC_ok (m1 ga12) (orC_ok (m1 gb12) nat_ok))))
theorem natk13 (hw : (Lit.int .i64 (ζ.1 0)).wf = true) (hc : pickV (ζ.1 0) ((30 : Nat) : Int) = ((13 : Nat) : Int)) : CalOk Yt Tryz.prog (kp Yt Tryz.prog ζ) natV13 :=
  orC_ok (pick_ok (κ := kp Yt Tryz.prog ζ) (j := 0) (by decide +kernel) hw (by decide) (by decide) hc) (orC_ok alive_ok (orC_ok (m1 fb3) (orC_ok (m1 ga13) (orC_ok (m1 gb13) nat_ok))))
theorem natk14 (hw : (Lit.int .i64 (ζ.1 0)).wf = true) (hc : pickV (ζ.1 0) ((30 : Nat) : Int) = ((14 : Nat) : Int)) : CalOk Yt Tryz.prog (kp Yt Tryz.prog ζ) natV14 :=
  orC_ok (pick_ok (κ := kp Yt Tryz.prog ζ) (j := 0) (by decide +kernel) hw (by decide) (by decide) hc) (orC_ok alive_ok (orC_ok (m1 fb3) (orC_ok (m1 ga14) (orC_ok (m1 gb14) nat_ok))))
theorem natk15 (hw : (Lit.int .i64 (ζ.1 0)).wf = true) (hc : pickV (ζ.1 0) ((30 : Nat) : Int) = ((15 : Nat) : Int)) : CalOk Yt Tryz.prog (kp Yt Tryz.prog ζ) natV15 :=
  orC_ok (pick_ok (κ := kp Yt Tryz.prog ζ) (j := 0) (by decide +kernel) hw (by decide) (by decide) hc) (orC_ok alive_ok (orC_ok (m1 fb3) (orC_ok (m1 ga15) (orC_ok (m1 gb15) nat_ok))))
theorem natk16 (hw : (Lit.int .i64 (ζ.1 0)).wf = true) (hc : pickV (ζ.1 0) ((30 : Nat) : Int) = ((16 : Nat) : Int)) : CalOk Yt Tryz.prog (kp Yt Tryz.prog ζ) natV16 :=
  orC_ok (pick_ok (κ := kp Yt Tryz.prog ζ) (j := 0) (by decide +kernel) hw (by decide) (by decide) hc) (orC_ok alive_ok (orC_ok (m1 fb3) (orC_ok (m1 ga16) (orC_ok (m1 gb16) nat_ok))))
theorem natk17 (hw : (Lit.int .i64 (ζ.1 0)).wf = true) (hc : pickV (ζ.1 0) ((30 : Nat) : Int) = ((17 : Nat) : Int)) : CalOk Yt Tryz.prog (kp Yt Tryz.prog ζ) natV17 :=
  orC_ok (pick_ok (κ := kp Yt Tryz.prog ζ) (j := 0) (by decide +kernel) hw (by decide) (by decide) hc) (orC_ok alive_ok (orC_ok (m1 fb3) (orC_ok (m1 ga17) (orC_ok (m1 gb17) nat_ok))))
theorem natk18 (hw : (Lit.int .i64 (ζ.1 0)).wf = true) (hc : pickV (ζ.1 0) ((30 : Nat) : Int) = ((18 : Nat) : Int)) : CalOk Yt Tryz.prog (kp Yt Tryz.prog ζ) natV18 :=
  orC_ok (pick_ok (κ := kp Yt Tryz.prog ζ) (j := 0) (by decide +kernel) hw (by decide) (by decide) hc) (orC_ok alive_ok (orC_ok (m1 fb3) (orC_ok (m1 ga18) (orC_ok (m1 gb18) nat_ok))))
theorem natk19 (hw : (Lit.int .i64 (ζ.1 0)).wf = true) (hc : pickV (ζ.1 0) ((30 : Nat) : Int) = ((19 : Nat) : Int)) : CalOk Yt Tryz.prog (kp Yt Tryz.prog ζ) natV19 :=
  orC_ok (pick_ok (κ := kp Yt Tryz.prog ζ) (j := 0) (by decide +kernel) hw (by decide) (by decide) hc) (orC_ok alive_ok (orC_ok (m1 fb3) (orC_ok (m1 ga19) (orC_ok (m1 gb19) nat_ok))))
theorem natk20 (hw : (Lit.int .i64 (ζ.1 0)).wf = true) (hc : pickV (ζ.1 0) ((30 : Nat) : Int) = ((20 : Nat) : Int)) : CalOk Yt Tryz.prog (kp Yt Tryz.prog ζ) natV20 :=
  orC_ok (pick_ok (κ := kp Yt Tryz.prog ζ) (j := 0) (by decide +kernel) hw (by decide) (by decide) hc) (orC_ok alive_ok (orC_ok (m1 fb3) (orC_ok (m1 ga20) (orC_ok (m1 gb20) nat_ok))))
theorem natk21 (hw : (Lit.int .i64 (ζ.1 0)).wf = true) (hc : pickV (ζ.1 0) ((30 : Nat) : Int) = ((21 : Nat) : Int)) : CalOk Yt Tryz.prog (kp Yt Tryz.prog ζ) natV21 :=
  orC_ok (pick_ok (κ := kp Yt Tryz.prog ζ) (j := 0) (by decide +kernel) hw (by decide) (by decide) hc) (orC_ok alive_ok (orC_ok (m1 fb3) (orC_ok (m1 ga21) (orC_ok (m1 gb21) nat_ok))))
theorem natk22 (hw : (Lit.int .i64 (ζ.1 0)).wf = true) (hc : pickV (ζ.1 0) ((30 : Nat) : Int) = ((22 : Nat) : Int)) : CalOk Yt Tryz.prog (kp Yt Tryz.prog ζ) natV22 :=
  orC_ok (pick_ok (κ := kp Yt Tryz.prog ζ) (j := 0) (by decide +kernel) hw (by decide) (by decide) hc) (orC_ok alive_ok (orC_ok (m1 fb3) (orC_ok (m1 ga22) (orC_ok (m1 gb22) nat_ok))))
theorem natk23 (hw : (Lit.int .i64 (ζ.1 0)).wf = true) (hc : pickV (ζ.1 0) ((30 : Nat) : Int) = ((23 : Nat) : Int)) : CalOk Yt Tryz.prog (kp Yt Tryz.prog ζ) natV23 :=
  orC_ok (pick_ok (κ := kp Yt Tryz.prog ζ) (j := 0) (by decide +kernel) hw (by decide) (by decide) hc) (orC_ok alive_ok (orC_ok (m1 fb3) (orC_ok (m1 ga23) (orC_ok (m1 gb23) nat_ok))))
theorem natk24 (hw : (Lit.int .i64 (ζ.1 0)).wf = true) (hc : pickV (ζ.1 0) ((30 : Nat) : Int) = ((24 : Nat) : Int)) : CalOk Yt Tryz.prog (kp Yt Tryz.prog ζ) natV24 :=
  orC_ok (pick_ok (κ := kp Yt Tryz.prog ζ) (j := 0) (by decide +kernel) hw (by decide) (by decide) hc) (orC_ok alive_ok (orC_ok (m1 fb3) (orC_ok (m1 ga24) (orC_ok (m1 gb24) nat_ok))))
theorem natk25 (hw : (Lit.int .i64 (ζ.1 0)).wf = true) (hc : pickV (ζ.1 0) ((30 : Nat) : Int) = ((25 : Nat) : Int)) : CalOk Yt Tryz.prog (kp Yt Tryz.prog ζ) natV25 :=
  orC_ok (pick_ok (κ := kp Yt Tryz.prog ζ) (j := 0) (by decide +kernel) hw (by decide) (by decide) hc) (orC_ok alive_ok (orC_ok (m1 fb3) (orC_ok (m1 ga25) (orC_ok (m1 gb25) nat_ok))))
theorem natk26 (hw : (Lit.int .i64 (ζ.1 0)).wf = true) (hc : pickV (ζ.1 0) ((30 : Nat) : Int) = ((26 : Nat) : Int)) : CalOk Yt Tryz.prog (kp Yt Tryz.prog ζ) natV26 :=
  orC_ok (pick_ok (κ := kp Yt Tryz.prog ζ) (j := 0) (by decide +kernel) hw (by decide) (by decide) hc) (orC_ok alive_ok (orC_ok (m1 fb3) (orC_ok (m1 ga26) (orC_ok (m1 gb26) nat_ok))))
theorem natk27 (hw : (Lit.int .i64 (ζ.1 0)).wf = true) (hc : pickV (ζ.1 0) ((30 : Nat) : Int) = ((27 : Nat) : Int)) : CalOk Yt Tryz.prog (kp Yt Tryz.prog ζ) natV27 :=
  orC_ok (pick_ok (κ := kp Yt Tryz.prog ζ) (j := 0) (by decide +kernel) hw (by decide) (by decide) hc) (orC_ok alive_ok (orC_ok (m1 fb3) (orC_ok (m1 ga27) (orC_ok (m1 gb27) nat_ok))))
theorem natk28 (hw : (Lit.int .i64 (ζ.1 0)).wf = true) (hc : pickV (ζ.1 0) ((30 : Nat) : Int) = ((28 : Nat) : Int)) : CalOk Yt Tryz.prog (kp Yt Tryz.prog ζ) natV28 :=
  orC_ok (pick_ok (κ := kp Yt Tryz.prog ζ) (j := 0) (by decide +kernel) hw (by decide) (by decide) hc) (orC_ok alive_ok (orC_ok (m1 fb3) (orC_ok (m1 ga28) (orC_ok (m1 gb28) nat_ok))))
theorem natk29 (hw : (Lit.int .i64 (ζ.1 0)).wf = true) (hc : pickV (ζ.1 0) ((30 : Nat) : Int) = ((29 : Nat) : Int)) : CalOk Yt Tryz.prog (kp Yt Tryz.prog ζ) natV29 :=
  orC_ok (pick_ok (κ := kp Yt Tryz.prog ζ) (j := 0) (by decide +kernel) hw (by decide) (by decide) hc) (orC_ok alive_ok (orC_ok (m1 fb3) (orC_ok (m1 ga29) (orC_ok (m1 gb29) nat_ok))))
end
theorem VrarI : ∀ {vs : List Value}, areI [.i64] vs → ∃ p0, vs = [.int .i64 p0] ∧ (Lit.int .i64 p0).wf = true
  | [_], ⟨⟨p0, e0, h0⟩, _⟩ => ⟨p0, by rw [e0], h0⟩
  | [], h => h.elim
  | _ :: _ :: _, h => h.2.elim
theorem topRevoked_law : LawI Tryz.prog 7 [.i64] fun W => laidMetH Tryz.prog Rows.topRevokedRow.laid W := by
  intro W args hW hA
  obtain ⟨l, hl⟩ : ∃ l, l = args.toList := ⟨_, rfl⟩
  rw [← hl] at hA
  obtain ⟨p0, hpq, hp0⟩ := VrarI hA
  subst hpq
  obtain ⟨ρ, hρ⟩ : ∃ ρ : Nat → Int, ρ = fun j => p0 := ⟨_, rfl⟩
  have hs := symA_is (Y := Yt) (P := Tryz.prog) (g := 0) (ρ := ρ) (β := 0) (j := 0) hA (fun i n hn => by
    rw [hρ]
    match i, hn with
    | 0, hn => simp [intsOf] at hn <;> simp [hn]
    | i + 1, hn => simp [intsOf] at hn)
  rw [hl] at hs
  have r0 : ρ 0 = p0 := by rw [hρ] <;> rfl
  have h0 := tabs_met W hW 0 0 rfl
  have hlt : 0 < W.heap.size := by
    rcases Nat.lt_or_ge 0 W.heap.size with h1 | h1
    · exact h1
    · have : W.heap[0]? = Option.none := Array.getElem?_eq_none h1
      simp [World.cell?, this] at h0
  have hcell : ∀ (i : Nat) s, tabL[i]? = some s → W.cell? ⟨0, i, Option.none⟩ = some (s.tr (env0 Yt Tryz.prog 0 (ρ, 0))) := fun i s h => by
    have hm : tabL = tabZ.map (S.i .u8) := rfl
    rw [hm, List.getElem?_map] at h
    cases hz : tabZ[i]? with
    | none => rw [hz] at h; cases h
    | some n =>
      rw [hz] at h
      cases h
      rw [tabs_met W hW i n hz]
      have hn : n < 32 := by
        have hall : tabZ.all (fun n => decide (n < 32)) = true := by decide
        simpa using List.all_eq_true.1 hall n (List.mem_of_getElem? hz)
      simp only [S.tr]
      rw [vl_lt (by omega)]
  have fin : ∀ {nat : Cal}, CalOk Yt Tryz.prog (kp Yt Tryz.prog (ρ, 0)) nat → valB (calM prog nat 60 (.fn a7 []) (symA [.i64] 0) (heap0 tabL)) (.s (.b true)) = true → Calls Tryz.prog 7 args W fun e W' => e = .returned (.bool true) ∧ Still W W' := fun hN hr =>
    law_run mixed progOk hN (g := 0) rfl hlt hcell (by decide) hr hs.1 hs.2 rfl (by simp) rfl
  have hc : pickV p0 ((30 : Nat) : Int) = ((0 : Nat) : Int) ∨ pickV p0 ((30 : Nat) : Int) = ((1 : Nat) : Int) ∨ pickV p0 ((30 : Nat) : Int) = ((2 : Nat) : Int) ∨ pickV p0 ((30 : Nat) : Int) = ((3 : Nat) : Int) ∨ pickV p0 ((30 : Nat) : Int) = ((4 : Nat) : Int) ∨ pickV p0 ((30 : Nat) : Int) = ((5 : Nat) : Int) ∨ pickV p0 ((30 : Nat) : Int) = ((6 : Nat) : Int) ∨ pickV p0 ((30 : Nat) : Int) = ((7 : Nat) : Int) ∨ pickV p0 ((30 : Nat) : Int) = ((8 : Nat) : Int) ∨ pickV p0 ((30 : Nat) : Int) = ((9 : Nat) : Int) ∨ pickV p0 ((30 : Nat) : Int) = ((10 : Nat) : Int) ∨ pickV p0 ((30 : Nat) : Int) = ((11 : Nat) : Int) ∨ pickV p0 ((30 : Nat) : Int) = ((12 : Nat) : Int) ∨ pickV p0 ((30 : Nat) : Int) = ((13 : Nat) : Int) ∨ pickV p0 ((30 : Nat) : Int) = ((14 : Nat) : Int) ∨ pickV p0 ((30 : Nat) : Int) = ((15 : Nat) : Int) ∨ pickV p0 ((30 : Nat) : Int) = ((16 : Nat) : Int) ∨ pickV p0 ((30 : Nat) : Int) = ((17 : Nat) : Int) ∨ pickV p0 ((30 : Nat) : Int) = ((18 : Nat) : Int) ∨ pickV p0 ((30 : Nat) : Int) = ((19 : Nat) : Int) ∨ pickV p0 ((30 : Nat) : Int) = ((20 : Nat) : Int) ∨ pickV p0 ((30 : Nat) : Int) = ((21 : Nat) : Int) ∨ pickV p0 ((30 : Nat) : Int) = ((22 : Nat) : Int) ∨ pickV p0 ((30 : Nat) : Int) = ((23 : Nat) : Int) ∨ pickV p0 ((30 : Nat) : Int) = ((24 : Nat) : Int) ∨ pickV p0 ((30 : Nat) : Int) = ((25 : Nat) : Int) ∨ pickV p0 ((30 : Nat) : Int) = ((26 : Nat) : Int) ∨ pickV p0 ((30 : Nat) : Int) = ((27 : Nat) : Int) ∨ pickV p0 ((30 : Nat) : Int) = ((28 : Nat) : Int) ∨ pickV p0 ((30 : Nat) : Int) = ((29 : Nat) : Int) := by
    unfold pickV; split <;> omega
  rw [← r0] at hc hp0
  rcases hc with hc | hc | hc | hc | hc | hc | hc | hc | hc | hc | hc | hc | hc | hc | hc | hc | hc | hc | hc | hc | hc | hc | hc | hc | hc | hc | hc | hc | hc | hc
  · exact fin (natk0 (ζ := (ρ, 0)) hp0 hc) rev0
  · exact fin (natk1 (ζ := (ρ, 0)) hp0 hc) rev1
  · exact fin (natk2 (ζ := (ρ, 0)) hp0 hc) rev2
  · exact fin (natk3 (ζ := (ρ, 0)) hp0 hc) rev3
  · exact fin (natk4 (ζ := (ρ, 0)) hp0 hc) rev4
  · exact fin (natk5 (ζ := (ρ, 0)) hp0 hc) rev5
  · exact fin (natk6 (ζ := (ρ, 0)) hp0 hc) rev6
  · exact fin (natk7 (ζ := (ρ, 0)) hp0 hc) rev7
  · exact fin (natk8 (ζ := (ρ, 0)) hp0 hc) rev8
  · exact fin (natk9 (ζ := (ρ, 0)) hp0 hc) rev9
  · exact fin (natk10 (ζ := (ρ, 0)) hp0 hc) rev10
  · exact fin (natk11 (ζ := (ρ, 0)) hp0 hc) rev11
  · exact fin (natk12 (ζ := (ρ, 0)) hp0 hc) rev12
  · exact fin (natk13 (ζ := (ρ, 0)) hp0 hc) rev13
  · exact fin (natk14 (ζ := (ρ, 0)) hp0 hc) rev14
  · exact fin (natk15 (ζ := (ρ, 0)) hp0 hc) rev15
  · exact fin (natk16 (ζ := (ρ, 0)) hp0 hc) rev16
  · exact fin (natk17 (ζ := (ρ, 0)) hp0 hc) rev17
  · exact fin (natk18 (ζ := (ρ, 0)) hp0 hc) rev18
  · exact fin (natk19 (ζ := (ρ, 0)) hp0 hc) rev19
  · exact fin (natk20 (ζ := (ρ, 0)) hp0 hc) rev20
  · exact fin (natk21 (ζ := (ρ, 0)) hp0 hc) rev21
  · exact fin (natk22 (ζ := (ρ, 0)) hp0 hc) rev22
  · exact fin (natk23 (ζ := (ρ, 0)) hp0 hc) rev23
  · exact fin (natk24 (ζ := (ρ, 0)) hp0 hc) rev24
  · exact fin (natk25 (ζ := (ρ, 0)) hp0 hc) rev25
  · exact fin (natk26 (ζ := (ρ, 0)) hp0 hc) rev26
  · exact fin (natk27 (ζ := (ρ, 0)) hp0 hc) rev27
  · exact fin (natk28 (ζ := (ρ, 0)) hp0 hc) rev28
  · exact fin (natk29 (ζ := (ρ, 0)) hp0 hc) rev29
end Go.Proofs.YtebgbhgehnpahaaGreatDoor
