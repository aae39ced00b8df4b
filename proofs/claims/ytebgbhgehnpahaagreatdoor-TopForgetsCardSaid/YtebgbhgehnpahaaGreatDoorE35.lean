/- A part of the proof of the claim that the last text of this folder states. -/
import Derived.Test.YtebgbhgehnpahaaGreatDoorE14
import Derived.Test.YtebgbhgehnpahaaGreatDoorE20
import Derived.Test.YtebgbhgehnpahaaGreatDoorE21
import Derived.Test.YtebgbhgehnpahaaGreatDoorE25
import Derived.Test.YtebgbhgehnpahaaGreatDoorE30
import Derived.Test.YtebgbhgehnpahaaGreatDoorE32
import Derived.Test.YtebgbhgehnpahaaGreatDoorE34
namespace Go.Proofs.YtebgbhgehnpahaaGreatDoor
open Go.E
set_option linter.all false
set_option maxRecDepth 100000
section
variable {ζ : (Nat → Int) × Nat}
theorem m1 {s0 : S} {A : List V} {H : Hp} {v : V} {H' : Hp} (h : runB (calM prog nat 60 s0 A H) v H' = true) : CalOk Yt Tryz.prog (kp Yt Tryz.prog ζ) (memS s0 A H v H') := memS_ok (calM_ok mixed progOk nat_ok 60) h
theorem m2 {s0 : S} {A : List V} {H : Hp} {v : V} {H' : Hp} (h : runB (trimC (calM prog nat 60) s0 A H) v H' = true) : CalOk Yt Tryz.prog (kp Yt Tryz.prog ζ) (memS s0 A H v H') := memS_ok (trimC_ok (calM_ok mixed progOk nat_ok 60)) h
theorem alive_ok : CalOk Yt Tryz.prog (kp Yt Tryz.prog ζ) (memS fa0S fa0A fa0H fa0V fa0R) := memS_ok (trimC_ok (calM_ok mixed progOk (orC_ok (m2 fa4) nat_ok) 60)) fa0
theorem nat0 (hw : (Lit.int .i64 (ζ.1 1)).wf = true) (hc : pickV (ζ.1 1) ((3 : Nat) : Int) = ((0 : Nat) : Int)) : CalOk Yt Tryz.prog (kp Yt Tryz.prog ζ) natF0 :=
  orC_ok (pick_ok (κ := kp Yt Tryz.prog ζ) (j := 1) (by decide +kernel) hw (by decide) (by decide) hc) (orC_ok alive_ok (orC_ok (m1 fb5) (orC_ok (m1 fb7) (orC_ok (m2 gd0) nat_ok))))
theorem nat1 (hw : (Lit.int .i64 (ζ.1 1)).wf = true) (hc : pickV (ζ.1 1) ((3 : Nat) : Int) = ((1 : Nat) : Int)) : CalOk Yt Tryz.prog (kp Yt Tryz.prog ζ) natF1 :=
  orC_ok (pick_ok (κ := kp Yt Tryz.prog ζ) (j := 1) (by decide +kernel) hw (by decide) (by decide) hc) (orC_ok alive_ok (orC_ok (m1 fb5) (orC_ok (m1 fb7) (orC_ok (m2 gd1) nat_ok))))
theorem nat2 (hw : (Lit.int .i64 (ζ.1 1)).wf = true) (hc : pickV (ζ.1 1) ((3 : Nat) : Int) = ((2 : Nat) : Int)) : CalOk Yt Tryz.prog (kp Yt Tryz.prog ζ) natF2 :=
  orC_ok (pick_ok (κ := kp Yt Tryz.prog ζ) (j := 1) (by decide +kernel) hw (by decide) (by decide) hc) (orC_ok alive_ok (orC_ok (m1 fb5) (orC_ok (m1 fb7) (orC_ok (m2 gd2) nat_ok))))
end
theorem areI_two {k1 k2 : IntKind} : ∀ {vs : List Value}, areI [k1, k2] vs → ∃ p q, vs = [.int k1 p, .int k2 q] ∧ (Lit.int k1 p).wf = true ∧ (Lit.int k2 q).wf = true
  | [], h => h.elim
  | [_], h => h.2.elim
  | [_, _], ⟨⟨p, e1, h1⟩, ⟨q, e2, h2⟩, _⟩ => ⟨p, q, by rw [e1, e2], h1, h2⟩
  | _ :: _ :: _ :: _, h => h.2.2.elim
theorem forgets_law : LawI Tryz.prog 10 [.u64, .i64] fun W => laidMetH Tryz.prog Rows.topForgetsRow.laid W := by
  intro W args hW hA
  obtain ⟨l, hl⟩ : ∃ l, l = args.toList := ⟨_, rfl⟩
  rw [← hl] at hA
  obtain ⟨p, q, hpq, hp, hq⟩ := areI_two hA
  subst hpq
  obtain ⟨ρ, hρ⟩ : ∃ ρ : Nat → Int, ρ = fun j => if j = 0 then p else q := ⟨_, rfl⟩
  have hs := symA_is (Y := Yt) (P := Tryz.prog) (g := 0) (ρ := ρ) (β := 0) (j := 0) hA (fun i n hn => by
    rw [hρ]
    match i, hn with
    | 0, hn => simp [intsOf] at hn; simp [hn]
    | 1, hn => simp [intsOf] at hn; simp [hn]
    | i + 2, hn => simp [intsOf] at hn)
  rw [hl] at hs
  have hq1 : ρ 1 = q := by rw [hρ]; rfl
  have h0 := tabs_met W hW 0 0 rfl
  have hlt : 0 < W.heap.size := by
    rcases Nat.lt_or_ge 0 W.heap.size with h1 | h1
    · exact h1
    · have : W.heap[0]? = Option.none := Array.getElem?_eq_none h1
      simp [World.cell?, this] at h0
  have hcell : ∀ (i : Nat) s, tabL[i]? = some s → W.cell? ⟨0, i, Option.none⟩ = some (s.tr (env0 Yt Tryz.prog 0 (ρ, 0))) := fun i s h => by
    have hm : tabL = tabZ.map (S.i .u8) := rfl
    rw [hm, List.getElem?_map] at h
    cases hz : tabZ[i]? with
    | none => rw [hz] at h; cases h
    | some n =>
      rw [hz] at h
      cases h
      rw [tabs_met W hW i n hz]
      have hn : n < 32 := by
        have hall : tabZ.all (fun n => decide (n < 32)) = true := by decide
        simpa using List.all_eq_true.1 hall n (List.mem_of_getElem? hz)
      simp only [S.tr]
      rw [vl_lt (by omega)]
  have fin : ∀ {nat : Cal}, CalOk Yt Tryz.prog (kp Yt Tryz.prog (ρ, 0)) nat → valB (calM prog nat 60 (.fn a10 []) (symA [.u64, .i64] 0) (heap0 tabL)) (.s (.b true)) = true → Calls Tryz.prog 10 args W fun e W' => e = .returned (.bool true) ∧ Still W W' := fun hN hr =>
    law_run mixed progOk hN (g := 0) rfl hlt hcell (by decide) hr hs.1 hs.2 rfl (by simp) rfl
  have hc : pickV q ((3 : Nat) : Int) = ((0 : Nat) : Int) ∨ pickV q ((3 : Nat) : Int) = ((1 : Nat) : Int) ∨ pickV q ((3 : Nat) : Int) = ((2 : Nat) : Int) := by
    unfold pickV; split <;> omega
  rw [← hq1] at hc hq
  rcases hc with hc | hc | hc
  · exact fin (nat0 (ζ := (ρ, 0)) hq hc) forgets0
  · exact fin (nat1 (ζ := (ρ, 0)) hq hc) forgets1
  · exact fin (nat2 (ζ := (ρ, 0)) hq hc) forgets2
end Go.Proofs.YtebgbhgehnpahaaGreatDoor
