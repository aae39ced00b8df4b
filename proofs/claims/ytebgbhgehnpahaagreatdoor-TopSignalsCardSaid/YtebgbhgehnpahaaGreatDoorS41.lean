/- A part of the proof of the claim that the last text of this folder states. -/
import Derived.Test.YtebgbhgehnpahaaGreatDoorS18
import Derived.Test.YtebgbhgehnpahaaGreatDoorS28
import Derived.Test.YtebgbhgehnpahaaGreatDoorS29
import Derived.Test.YtebgbhgehnpahaaGreatDoorS36
import Derived.Test.YtebgbhgehnpahaaGreatDoorS37
import Derived.Test.YtebgbhgehnpahaaGreatDoorS38
import Derived.Test.YtebgbhgehnpahaaGreatDoorS39
import Derived.Test.YtebgbhgehnpahaaGreatDoorS40
namespace Go.Proofs.YtebgbhgehnpahaaGreatDoor
open Go.E
set_option linter.all false
set_option maxRecDepth 100000
section
variable {ζ : (Nat → Int) × Nat}
theorem m1 {s0 : S} {A : List V} {H : Hp} {v : V} {H' : Hp} (h : runB (calM prog nat 60 s0 A H) v H' = true) : CalOk Yt Tryz.prog (kp Yt Tryz.prog ζ) (memS s0 A H v H') := memS_ok (calM_ok mixed progOk nat_ok 60) h
theorem m2 {s0 : S} {A : List V} {H : Hp} {v : V} {H' : Hp} (h : runB (trimC (calM prog nat 60) s0 A H) v H' = true) : CalOk Yt Tryz.prog (kp Yt Tryz.prog ζ) (memS s0 A H v H') := memS_ok (trimC_ok (calM_ok mixed progOk nat_ok 60)) h
theorem alive_ok : CalOk Yt Tryz.prog (kp Yt Tryz.prog ζ) (memS fa4S fa4A fa4H fa4V fa4R) := memS_ok (trimC_ok (calM_ok mixed progOk (orC_ok (m2 fa3) (orC_ok (m1 fa0) nat_ok)) 60)) fa4
theorem natS_ok : CalOk Yt Tryz.prog (kp Yt Tryz.prog ζ) natS := orC_ok (hideC_ok (orC_ok alive_ok (orC_ok (m1 fa0) (orC_ok (m1 sp5) (orC_ok (m1 sp6) (orC_ok (m1 sp7) (orC_ok (m1 sp8) (orC_ok (m1 sp9) (orC_ok (m1 sp10) (orC_ok (m1 sp11) (orC_ok (m1 sp12) (orC_ok (m1 sp13) (orC_ok (m1 sp14) (orC_ok (m1 sp15) (orC_ok (m1 sp16) (orC_ok (m1 sp17) (orC_ok (m1 sp18) (orC_ok (m1 sp19) (orC_ok (m1 sp20) noCal_ok))))))))))))))))))) nat_ok
theorem code3 : Tryz.f3.body = some (seqs [cp1 (bodyOf Tryz.f3), cp1 (cp2 (bodyOf Tryz.f3)), cp1 (cp2 (cp2 (bodyOf Tryz.f3))), cp1 (cp2 (cp2 (cp2 (bodyOf Tryz.f3)))), cp1 (cp2 (cp2 (cp2 (cp2 (bodyOf Tryz.f3))))), cp1 (cp2 (cp2 (cp2 (cp2 (cp2 (bodyOf Tryz.f3))))))] (.seq (.seq (cp1 (cp1 (cp2 (cp2 (cp2 (cp2 (cp2 (cp2 (bodyOf Tryz.f3))))))))) (.block 0 (.loop (cp1 (cp1 (cp2 (cp1 (cp2 (cp2 (cp2 (cp2 (cp2 (cp2 (bodyOf Tryz.f3)))))))))))))) (cp2 (cp2 (cp2 (cp2 (cp2 (cp2 (cp2 (bodyOf Tryz.f3)))))))))) := by kernel_rfl
theorem cl3 : compWs Yt Tryz.prog Tryz.f3.ntmps [.f, .f, .f, .f, .f, .f] [cp1 (bodyOf Tryz.f3), cp1 (cp2 (bodyOf Tryz.f3)), cp1 (cp2 (cp2 (bodyOf Tryz.f3))), cp1 (cp2 (cp2 (cp2 (bodyOf Tryz.f3)))), cp1 (cp2 (cp2 (cp2 (cp2 (bodyOf Tryz.f3))))), cp1 (cp2 (cp2 (cp2 (cp2 (cp2 (bodyOf Tryz.f3))))))] = some js3 := by kernel_rfl
theorem cI3 : compW Yt Tryz.prog Tryz.f3.ntmps .f (cp1 (cp1 (cp2 (cp2 (cp2 (cp2 (cp2 (cp2 (bodyOf Tryz.f3))))))))) = some jI := by kernel_rfl
theorem cB3 : compW Yt Tryz.prog Tryz.f3.ntmps (.s .f (.s (.b (.s .f (.s .f (.s .f (.s .f (.s .f (.c .f .f))))))) .f)) (cp1 (cp1 (cp2 (cp1 (cp2 (cp2 (cp2 (cp2 (cp2 (cp2 (bodyOf Tryz.f3))))))))))) = some jB := by kernel_rfl
theorem cZ3 : compW Yt Tryz.prog Tryz.f3.ntmps .f (cp2 (cp2 (cp2 (cp2 (cp2 (cp2 (cp2 (bodyOf Tryz.f3)))))))) = some jZ := by kernel_rfl
theorem cR3 : compR Tryz.prog Tryz.f3.results.toList = some (fr f3) := by kernel_rfl
theorem cN3 : Tryz.f3.ntmps ≤ 576 := by decide +kernel
end
theorem hYz' : ∀ g p, Yt.g = some (g, p) → p = .z := fun g p h => by cases h; rfl
theorem topSignals_law : LawB Tryz.prog 3 fun W => laidMetH Tryz.prog Rows.topSignalsRow.laid W := by
  intro W args v hW hl hv
  have h0 := tabs_met W hW 0 0 rfl
  have hlt : 0 < W.heap.size := by
    rcases Nat.lt_or_ge 0 W.heap.size with h1 | h1
    · exact h1
    · have : W.heap[0]? = Option.none := Array.getElem?_eq_none h1
      simp [World.cell?, this] at h0
  have hal : args.size ≤ 576 := by
    have h4 : args.size = args.toList.length := by simp
    rw [hl] at h4
    have : args.size = 1 := h4
    omega
  have hcell : ∀ (ρ : Nat → Int) (a o : Nat) (i : Nat) s, tabL[i]? = some s → W.cell? ⟨0, i, Option.none⟩ = some (s.tr (envB Yt Tryz.prog 0 a o (ρ, 0))) := fun ρ a o i s h => by
    have hm : tabL = tabZ.map (S.i .u8) := rfl
    rw [hm, List.getElem?_map] at h
    cases hz : tabZ[i]? with
    | none => rw [hz] at h; cases h
    | some n =>
      rw [hz] at h
      cases h
      rw [tabs_met W hW i n hz]
      have hn : n < 32 := by
        have hall : tabZ.all (fun n => decide (n < 32)) = true := by decide
        simpa using List.all_eq_true.1 hall n (List.mem_of_getElem? hz)
      simp only [S.tr]
      rw [vl_lt (by omega)]
  have hG : ∀ (ρ : Nat → Int) (a o m : Nat), Gl Yt (envB Yt Tryz.prog 0 a o (ρ, 0)) (Pth.ok (heapB tabL m).n.n) := fun ρ a o m g p hg => by
    cases hg; exact ⟨rfl, by simp [envB]⟩
  have hf : tabL.all (S.rf noR) = true := by decide
  have run0 : ∀ (u : V), Iss (envB Yt Tryz.prog 0 0 0 (fun _ => 0, 0)) [u] args.toList → u.rf (Pth.ok 2) = true → valB (calM prog natS 60 (.fn a3 []) [u] (heapB tabL 0)) (.s (.b true)) = true → Calls Tryz.prog 3 args W fun e W' => e = .returned (.bool true) ∧ Still W W' := fun u hu hr h =>
    law_runG (ζ := (fun _ => 0, 0)) mixed progOk natS_ok ⟨rfl, rfl, rfl⟩ (relB hlt (hcell _ 0 0) hf hlt (fun i hi => by omega)) (hG _ 0 0 0) heapB_ro h hu (by simp only [List.all_cons, List.all_nil, Bool.and_true]; exact hr) rfl (by simp) rfl
  rcases hv with hv | ⟨a, c, hv⟩ | ⟨a, o, L, c, hv, hL, hLc, ha, hb⟩
  · exact run0 (.s .ns) (by rw [hl, hv]; exact .cons (.inr (.inl rfl)) .nil) rfl nil0
  · exact run0 (.s (.es a c)) (by rw [hl, hv]; exact .cons (.inr (.inl rfl)) .nil) rfl (es0 a c)
  · obtain ⟨ρ, hρ⟩ : ∃ ρ : Nat → Int, ρ = fun j => if j = 100 then (L : Int) else ((c - L : Nat) : Int) := ⟨_, rfl⟩
    have r0 : (ρ 100).toNat = L := by rw [hρ]; simp
    have r1 : (ρ 101).toNat = c - L := by rw [hρ]; simp
    have fin : ∀ (K m N : Nat), sgN ρ K = L → m ≤ L → (runS K m N && (verS K m N && posS K m N)) = true → Calls Tryz.prog 3 args W fun e W' => e = .returned (.bool true) ∧ Still W W' := fun K m N hK hm h => by
      obtain ⟨h1, h2⟩ := and_t h
      obtain ⟨h2, h3⟩ := and_t h2
      have hver : Ver jB (calM prog natS 60) (kF (fr f3) (.s (.b true))) (kxZ 0 jZ (calM prog natS 60) (kF (fr f3) (.s (.b true)))) (SL K m N) := by
        have := verC_ver h2 trivial
        rw [List.append_nil] at this
        exact this
      have hpos : ∀ s ∈ SL K m N, (heapB tabL m).n.n ≤ s.h.n.n := fun s hs => by
        have h3 : allF (fun s : LS => Nat.ble 2 s.h.n.n) (SL K m N) = true := h3
        rw [allF_eq] at h3
        exact Nat.le_of_ble_eq_true (List.all_eq_true.1 h3 s hs)
      refine law_loopG (ζ := (ρ, 0)) (e0 := envB Yt Tryz.prog 0 a o (ρ, 0)) (h0 := heapB tabL m) mixed progOk natS_ok hYz' ⟨rfl, rfl, rfl⟩ (relB hlt (hcell ρ a o) hf ha (fun i hi => hb i (by omega))) (hG ρ a o m) heapB_ro rfl (by show 0 < 2; omega) Tryz.func3 cR3 code3 cl3 cI3 cB3 cZ3 (by decide) h1 hver hpos cN3 ?_ hal rfl rfl (by simp) rfl
      rw [hl, hv]
      refine .cons (.inr (.inl ?_)) .nil
      show Value.slice (some ⟨a, o, Option.none⟩) L c = .slice (some (adr (envB Yt Tryz.prog 0 a o (ρ, 0)) (.s .a .b) 0)) (sgN ρ K) (sgN ρ K + (ρ 101).toNat)
      rw [hK, r1, show L + (c - L) = c by omega]
      simp [adr, envB]
    have hex : ∀ k, sgN ρ (4294967296 + k) = if k < 4294967296 then k else sgN ρ (4294967296 + k) := fun k => by
      split
      · show (Bool.rec (Nat.mod (4294967296 + k) 4294967296) _ (Nat.blt (4294967296 + k) 4294967296) : Nat) = k
        have : Nat.blt (4294967296 + k) 4294967296 = false := by
          cases hb : Nat.blt (4294967296 + k) 4294967296 with
          | false => rfl
          | true => rw [Nat.blt_eq] at hb; omega
        rw [this]
        show (4294967296 + k) % 4294967296 = k
        omega
      · rfl
    have hc : L = 1 ∨ L = 2 ∨ L = 3 ∨ L = 4 ∨ L = 5 ∨ L = 6 ∨ L = 7 ∨ L = 8 ∨ L = 9 ∨ L = 10 ∨ L = 11 ∨ L = 12 ∨ L = 13 ∨ L = 14 ∨ L = 15 ∨ L = 16 ∨ L = 17 ∨ L = 18 ∨ L = 19 ∨ L = 20 ∨ L = 21 ∨ L = 22 ∨ L = 23 ∨ L = 24 ∨ L = 25 ∨ L = 26 ∨ L = 27 ∨ L = 28 ∨ L = 29 ∨ L = 30 ∨ 31 ≤ L := by omega
    rcases hc with hc | hc | hc | hc | hc | hc | hc | hc | hc | hc | hc | hc | hc | hc | hc | hc | hc | hc | hc | hc | hc | hc | hc | hc | hc | hc | hc | hc | hc | hc | hc
    · exact fin 4294967297 1 1 (by have := hex 1; rw [if_pos (by decide)] at this; exact this.trans hc.symm) (by omega) sg1
    · exact fin 4294967298 2 2 (by have := hex 2; rw [if_pos (by decide)] at this; exact this.trans hc.symm) (by omega) sg2
    · exact fin 4294967299 3 3 (by have := hex 3; rw [if_pos (by decide)] at this; exact this.trans hc.symm) (by omega) sg3
    · exact fin 4294967300 4 4 (by have := hex 4; rw [if_pos (by decide)] at this; exact this.trans hc.symm) (by omega) sg4
    · exact fin 4294967301 5 5 (by have := hex 5; rw [if_pos (by decide)] at this; exact this.trans hc.symm) (by omega) sg5
    · exact fin 4294967302 6 6 (by have := hex 6; rw [if_pos (by decide)] at this; exact this.trans hc.symm) (by omega) sg6
    · exact fin 4294967303 7 7 (by have := hex 7; rw [if_pos (by decide)] at this; exact this.trans hc.symm) (by omega) sg7
    · exact fin 4294967304 8 8 (by have := hex 8; rw [if_pos (by decide)] at this; exact this.trans hc.symm) (by omega) sg8
    · exact fin 4294967305 9 9 (by have := hex 9; rw [if_pos (by decide)] at this; exact this.trans hc.symm) (by omega) sg9
    · exact fin 4294967306 10 10 (by have := hex 10; rw [if_pos (by decide)] at this; exact this.trans hc.symm) (by omega) sg10
    · exact fin 4294967307 11 11 (by have := hex 11; rw [if_pos (by decide)] at this; exact this.trans hc.symm) (by omega) sg11
    · exact fin 4294967308 12 12 (by have := hex 12; rw [if_pos (by decide)] at this; exact this.trans hc.symm) (by omega) sg12
    · exact fin 4294967309 13 13 (by have := hex 13; rw [if_pos (by decide)] at this; exact this.trans hc.symm) (by omega) sg13
    · exact fin 4294967310 14 14 (by have := hex 14; rw [if_pos (by decide)] at this; exact this.trans hc.symm) (by omega) sg14
    · exact fin 4294967311 15 15 (by have := hex 15; rw [if_pos (by decide)] at this; exact this.trans hc.symm) (by omega) sg15
    · exact fin 4294967312 16 16 (by have := hex 16; rw [if_pos (by decide)] at this; exact this.trans hc.symm) (by omega) sg16
    · exact fin 4294967313 17 17 (by have := hex 17; rw [if_pos (by decide)] at this; exact this.trans hc.symm) (by omega) sg17
    · exact fin 4294967314 18 18 (by have := hex 18; rw [if_pos (by decide)] at this; exact this.trans hc.symm) (by omega) sg18
    · exact fin 4294967315 19 19 (by have := hex 19; rw [if_pos (by decide)] at this; exact this.trans hc.symm) (by omega) sg19
    · exact fin 4294967316 20 20 (by have := hex 20; rw [if_pos (by decide)] at this; exact this.trans hc.symm) (by omega) sg20
    · exact fin 4294967317 21 21 (by have := hex 21; rw [if_pos (by decide)] at this; exact this.trans hc.symm) (by omega) sg21
    · exact fin 4294967318 22 22 (by have := hex 22; rw [if_pos (by decide)] at this; exact this.trans hc.symm) (by omega) sg22
    · exact fin 4294967319 23 23 (by have := hex 23; rw [if_pos (by decide)] at this; exact this.trans hc.symm) (by omega) sg23
    · exact fin 4294967320 24 24 (by have := hex 24; rw [if_pos (by decide)] at this; exact this.trans hc.symm) (by omega) sg24
    · exact fin 4294967321 25 25 (by have := hex 25; rw [if_pos (by decide)] at this; exact this.trans hc.symm) (by omega) sg25
    · exact fin 4294967322 26 26 (by have := hex 26; rw [if_pos (by decide)] at this; exact this.trans hc.symm) (by omega) sg26
    · exact fin 4294967323 27 27 (by have := hex 27; rw [if_pos (by decide)] at this; exact this.trans hc.symm) (by omega) sg27
    · exact fin 4294967324 28 28 (by have := hex 28; rw [if_pos (by decide)] at this; exact this.trans hc.symm) (by omega) sg28
    · exact fin 4294967325 29 29 (by have := hex 29; rw [if_pos (by decide)] at this; exact this.trans hc.symm) (by omega) sg29
    · exact fin 4294967326 30 30 (by have := hex 30; rw [if_pos (by decide)] at this; exact this.trans hc.symm) (by omega) sg30
    · refine fin 31 31 30 ?_ (by omega) sg31
      show Nat.max 31 (ρ 100).toNat = L
      rw [r0]; exact Nat.max_eq_right hc
end Go.Proofs.YtebgbhgehnpahaaGreatDoor
