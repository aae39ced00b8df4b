/- DeriveBack: for every input the law's Go function answers true, and its arguments read behind the call as before. No conditions. -/
import Derived.Test.YtpmobbehdpgnbaaGreatZ10
import Derived.Test.YtpmobbehdpgnbaaGreatZ30
import Derived.Test.YtpmobbehdpgnbaaGreatZ28
import Derived.Test.YtpmobbehdpgnbaaGreatZ31
/- Law 12: DeriveOrder: the walk. -/
namespace Go.Proofs.YtpmobbehdpgnbaaGreat
open Go.D
set_option linter.all false
set_option maxRecDepth 100000
set_option maxHeartbeats 8000000

def fitsB (m : M) : Prop := ∀ k, k ∈ PL → fitB (m.gV k).cap k = true
theorem fits_base : fitsB baseC := fun k hk => by rw [gV_w baseC_w]; exact base_fit k hk
theorem Did.fits {m m1 r1 : M} {C : Int → Cap} (h : Did m m1 r1 C) (hF : Fine m C) (f : fitsB m) : fitsB m1 := fun k hk => by
  obtain ⟨L, D⟩ := h.L
  rw [h.cap k (D.n0 (PL_PB hk))]
  exact hF.fit f k hk
theorem exit2 {i n lim : Nat} (h : ¬ (i < n ∧ i < lim)) : ((((i : Int) < (n : Int)) = True ∧ ((i : Int) < (lim : Int)) = False) ∨ (((i : Int) < (n : Int)) = False ∧ ((i : Int) < (n : Int)) = False)) := by
  by_cases h1 : i < n
  · left
    exact ⟨eq_true (by omega), eq_false (by omega)⟩
  · right
    exact ⟨eq_false (by omega), eq_false (by omega)⟩
end Go.Proofs.YtpmobbehdpgnbaaGreat

/- Law 12: a move and back, two exchanges: what they leave. -/
namespace Go.Proofs.YtpmobbehdpgnbaaGreat
open Go.D
set_option linter.all false
set_option maxRecDepth 100000
set_option maxHeartbeats 4000000

section
variable {m : M} {L : List Int}
theorem DI.back_mov (D : DI m L) {a b : Int} (ha : a ∈ L) (hbP : b ∈ PB) (hbL : b ∉ L) {s : M} (hs : s.w = (m.mov a b).2.w) : (s.mov b a).1 = 0 ∧ (s.mov b a).2.w = m.w := by
  obtain ⟨_, _, _, T1, D1, hc1⟩ := D.mov rfl ha hbP hbL
  have haP := D.sub a ha
  have hab : a ≠ b := fun e => hbL (e ▸ ha)
  have a0 := D.n0 haP
  have b0 := D.n0 hbP
  have I := D.inv
  have hpn := I.prev_next ha
  have hpa : (m.gV a).prev ≠ a := I.irr_prev ha
  have hna : (m.gV a).next ≠ a := I.irr_next ha
  have hpb : (m.gV a).prev ≠ b := fun e => by
    rcases I.prev ha with h | h
    · exact b0 (e.symm.trans h)
    · exact hbL (e ▸ h)
  have hnb : (m.gV a).next ≠ b := fun e => by
    rcases I.next ha with h | h
    · exact b0 (e.symm.trans h)
    · exact hbL (e ▸ h)
  have hb1 : b ∈ L.map (rho a b) := List.mem_map.2 ⟨a, ha, by simp [rho]⟩
  have ha1 : a ∉ L.map (rho a b) := fun hx => by
    obtain ⟨y, hy, e⟩ := List.mem_map.1 hx
    unfold rho at e
    split at e
    · exact hab e.symm
    · rename_i h; exact h e
  have Ds := D1.of_w hs
  obtain ⟨k1, _, _, T2, _, _⟩ := Ds.mov rfl hb1 haP ha1
  refine ⟨k1, ?_⟩
  have T1s := T1.of_w hs
  have T := T1s.trans T2
  have hsb : s.gV b = m.gV a := by
    rw [T1s.V b b0]
    unfold M.movV
    rw [jnV_out (Ne.symm hpb) (Ne.symm hnb)]
    simp only [if_neg (Ne.symm hab), if_true]
  refine T.det (M.To.refl m) rfl (fun x x0 => ?_) ?_ I.len.2 I.two
  · -- slot by slot
    unfold M.movV
    rw [hsb]
    by_cases c1 : x = (m.gV a).prev
    · have xL : x ∈ L := (I.prev ha).elim (fun h => absurd (c1.trans h) x0) (fun h => c1 ▸ h)
      have xb : x ≠ b := fun e => hpb (c1.symm.trans e)
      have xa : x ≠ a := fun e => hpa (c1.symm.trans e)
      have hx2 : (m.gV x).next = a := (I.two_way xL ha).2 c1.symm
      unfold jnV
      rw [if_pos c1, ← c1]
      simp only [if_neg xb, if_neg xa]
      rw [T1s.V x x0]
      unfold M.movV jnV
      rw [if_pos c1, ← c1]
      simp only [if_neg xa, if_neg xb]
      refine Slot.ext4 rfl rfl hx2.symm rfl
    · by_cases c2 : x = (m.gV a).next
      · have xL : x ∈ L := (I.next ha).elim (fun h => absurd (c2.trans h) x0) (fun h => c2 ▸ h)
        have xb : x ≠ b := fun e => hnb (c2.symm.trans e)
        have xa : x ≠ a := fun e => hna (c2.symm.trans e)
        have hx2 : (m.gV x).prev = a := (I.two_way ha xL).1 c2.symm
        unfold jnV
        rw [if_neg c1, if_pos c2, ← c2]
        simp only [if_neg xb, if_neg xa]
        rw [T1s.V x x0]
        unfold M.movV jnV
        rw [if_neg c1, if_pos c2, ← c2]
        simp only [if_neg xa, if_neg xb]
        refine Slot.ext4 rfl hx2.symm rfl rfl
      · rw [jnV_out c1 c2]
        by_cases xb : x = b
        · rw [if_pos xb, xb, D.z b hbP hbL]
        · rw [if_neg xb]
          by_cases xa : x = a
          · rw [if_pos xa, xa]
          · rw [if_neg xa, T1s.V x x0]
            unfold M.movV
            rw [jnV_out c1 c2]
            simp only [if_neg xa, if_neg xb]
  · unfold M.movF
    rw [hsb, T1s.F]
    unfold M.movF
    by_cases c : (m.gV a).prev = 0
    · rw [if_pos c]; exact ((I.first ha).1 c).symm
    · rw [if_neg c, if_neg c]
theorem DI.back_swp (D : DI m L) {a b : Int} (ha : a ∈ L) (hb : b ∈ L) (hne : a ≠ b) {s : M} (hs : s.w = (m.swp a b).2.w) : (s.swp a b).2.w = m.w := by
  obtain ⟨_, _, _, T1, D1, hc1⟩ := D.swp rfl ha hb hne
  have I := D.inv
  have a0 := D.n0 (D.sub a ha)
  have b0 := D.n0 (D.sub b hb)
  have hb1 : b ∈ L.map (oth a b) := List.mem_map.2 ⟨a, ha, oth_of_a⟩
  have ha1 : a ∈ L.map (oth a b) := List.mem_map.2 ⟨b, hb, oth_of_b hne⟩
  have Ds := D1.of_w hs
  obtain ⟨_, _, _, T2, _, _⟩ := Ds.swp rfl ha1 hb1 hne
  have T1s := T1.of_w hs
  have T := T1s.trans T2
  have hsa : s.gV a = (m.gV b).oth a b := by
    rw [T1s.V a a0]; unfold M.swV; rw [if_pos rfl]
  have hsb : s.gV b = (m.gV a).oth a b := by
    rw [T1s.V b b0]; unfold M.swV; rw [if_neg (Ne.symm hne), if_pos rfl]
  have oo : ∀ t : Slot, (t.oth a b).oth a b = t := fun t => Slot.ext4 rfl (oth_oth hne _) (oth_oth hne _) rfl
  refine T.det (M.To.refl m) rfl (fun x x0 => ?_) ?_ I.len.2 I.two
  · unfold M.swV
    by_cases xa : x = a
    · rw [if_pos xa, hsb, oo, xa]
    · by_cases xb : x = b
      · rw [if_neg xa, if_pos xb, hsa, oo, xb]
      · rw [if_neg xa, if_neg xb, hsa, hsb, T1s.V x x0]
        have on : ∀ y, (x = oth a b y) = (x = y) := fun y => propext ⟨fun h => ((oth_x xa xb).1 h.symm).symm, fun h => ((oth_x xa xb).2 h.symm).symm⟩
        unfold M.swV
        rw [if_neg xa, if_neg xb]
        simp only [Slot.oth, on]
        refine Slot.ext4 rfl ?_ ?_ rfl
        · simp only
          by_cases c1 : x = (m.gV a).next
          · have xL : x ∈ L := (I.next ha).elim (fun h => absurd (c1.trans h) x0) (fun h => c1 ▸ h)
            rw [if_pos c1]; exact ((I.two_way ha xL).1 c1.symm).symm
          · rw [if_neg c1]
            by_cases c2 : x = (m.gV b).next
            · have xL : x ∈ L := (I.next hb).elim (fun h => absurd (c2.trans h) x0) (fun h => c2 ▸ h)
              rw [if_pos c2]; exact ((I.two_way hb xL).1 c2.symm).symm
            · rw [if_neg c2]
              first
                | rfl
                | (rw [if_neg c2, if_neg c1])
        · simp only
          by_cases c1 : x = (m.gV a).prev
          · have xL : x ∈ L := (I.prev ha).elim (fun h => absurd (c1.trans h) x0) (fun h => c1 ▸ h)
            rw [if_pos c1]; exact ((I.two_way xL ha).2 c1.symm).symm
          · rw [if_neg c1]
            by_cases c2 : x = (m.gV b).prev
            · have xL : x ∈ L := (I.prev hb).elim (fun h => absurd (c2.trans h) x0) (fun h => c2 ▸ h)
              rw [if_pos c2]; exact ((I.two_way xL hb).2 c2.symm).symm
            · rw [if_neg c2]
              first
                | rfl
                | (rw [if_neg c2, if_neg c1])
  · unfold M.swF
    rw [T1s.F]
    exact oth_oth hne _
theorem mvX_is (m : M) (f t : Int) : (m.moE f t = 0 → ∃ s : M, s.w = m.w ∧ m.mvX M.enX M.mov f t = (s.mov f t).2) ∧ (m.moE f t ≠ 0 → (m.mvX M.enX M.mov f t).w = m.w) := by
  unfold M.mvX
  refine ⟨fun h => ?_, fun h => ?_⟩
  · rw [if_pos h]; exact ⟨_, coXe_w m f t, rfl⟩
  · rw [if_neg h]; exact coXe_w m f t
theorem mov_w {s : M} (D : DI m L) (e : s.w = m.w) {a b : Int} (ha : a ∈ L) (hbP : b ∈ PB) (hbL : b ∉ L) : (s.mov a b).2.w = (m.mov a b).2.w := by
  obtain ⟨_, _, _, T1, _, _⟩ := D.mov rfl ha hbP hbL
  obtain ⟨_, _, _, T2, _, _⟩ := (D.of_w e).mov rfl ha hbP hbL
  refine (T1.det T2 e (fun x _ => ?_) ?_ D.inv.len.2 D.inv.two).symm
  · simp only [M.movV, gV_fun e]
  · simp only [M.movF, gV_fun e, fst_w e]
theorem swp_w {s : M} (D : DI m L) (e : s.w = m.w) {a b : Int} (ha : a ∈ L) (hb : b ∈ L) (hne : a ≠ b) : (s.swp a b).2.w = (m.swp a b).2.w := by
  obtain ⟨_, _, _, T1, _, _⟩ := D.swp rfl ha hb hne
  obtain ⟨_, _, _, T2, _, _⟩ := (D.of_w e).swp rfl ha hb hne
  refine (T1.det T2 e (fun x _ => ?_) ?_ D.inv.len.2 D.inv.two).symm
  · simp only [M.swV, gV_fun e]
  · simp only [M.swF, fst_w e]
theorem DI.back (D : DI m L) {a b : Int} (ha : a ∈ PL) (hb : b ∈ PL) (hfit : ∀ k, k ∈ PL → fitB (m.gV k).cap k = true) {m1 m2 m3 m4 : M} (e1 : m.mvX M.enX M.mov a b = m1) (e2 : m1.mvX M.enX M.mov b a = m2) (e3 : m2.roX a b a = m3) (e4 : m3.roX a b a = m4) :
    (m.moE a b ≠ 0 ∧ a = b) ∨ (a ≠ b ∧ ((m.moE a b ≠ 0 ∧ m2.roE a b a ≠ 0) ∨ (m.moE a b = 0 ∧ m1.moE b a = 0 ∧ m2.roE a b a ≠ 0 ∧ m4.w = m.w) ∨ (m.moE a b ≠ 0 ∧ m2.roE a b a = 0 ∧ m3.roE a b a = 0 ∧ m4.w = m.w))) := by
  by_cases hab : a = b
  · left
    refine ⟨fun h => ?_, hab⟩
    obtain ⟨h1, h2⟩ := D.enE ha hb (moE_is h).1
    exact h2 (hab ▸ h1)
  · right
    refine ⟨hab, ?_⟩
    have hba : b ≠ a := Ne.symm hab
    have ro121 : ∀ s : M, s.emB b = true → s.roE a b a = 121 := fun s h => by
      unfold M.roE
      rw [if_neg (by rintro (h | h) <;> exact hba h), if_pos (by rw [h]; rfl)]
    by_cases hf : m.moE a b = 0
    · right; left
      obtain ⟨h1, h2⟩ := moE_is hf
      obtain ⟨aL, bL⟩ := D.enE ha hb h1
      obtain ⟨s, hs, es⟩ := (mvX_is m a b).1 hf
      rw [e1] at es
      have w1 : m1.w = (m.mov a b).2.w := by rw [es]; exact mov_w D hs aL (PL_PB hb) bL
      obtain ⟨_, _, _, _, D1, hc1⟩ := D.mov rfl aL (PL_PB hb) bL
      have Ds := D1.of_w w1
      have hb1 : b ∈ L.map (rho a b) := List.mem_map.2 ⟨a, aL, by simp [rho]⟩
      have ha1 : a ∉ L.map (rho a b) := fun hx => by
        obtain ⟨y, hy, e⟩ := List.mem_map.1 hx
        unfold rho at e
        split at e
        · exact hab e.symm
        · rename_i h; exact h e
      have hcb : (m1.gV b).cap = (m.gV a).cap := by
        rw [gV_w w1, hc1 b (D.n0 (PL_PB hb)), if_neg hba, if_pos rfl]
      have hen : m1.enE b a = 0 := by
        unfold M.enE
        rw [(Ds.emf (PL_PB hb)).2 hb1, (Ds.em (PL_PB ha)).2 ha1]
        rfl
      have hg : m1.moE b a = 0 := by
        unfold M.moE
        rw [if_pos hen, hcb, hfit a ha, if_pos rfl]
      obtain ⟨s2, hs2, es2⟩ := (mvX_is m1 b a).1 hg
      rw [e2] at es2
      have w2 : m2.w = m.w := by
        rw [es2]; exact (D.back_mov aL (PL_PB hb) bL (hs2.trans w1)).2
      have em2 : m2.emB b = true := by rw [emB_w w2]; exact (D.em (PL_PB hb)).2 bL
      have hh := ro121 m2 em2
      have w3 : m3.w = m2.w := by rw [← e3]; exact (roX_is m2 a b a).2 (by rw [hh]; decide)
      have em3 : m3.emB b = true := by rw [emB_w w3]; exact em2
      have w4 : m4.w = m3.w := by rw [← e4]; exact (roX_is m3 a b a).2 (by rw [ro121 m3 em3]; decide)
      exact ⟨hf, hg, by rw [hh]; decide, w4.trans (w3.trans w2)⟩
    · by_cases hh : m2.roE a b a = 0
      · right; right
        have w1 : m1.w = m.w := by rw [← e1]; exact (mvX_is m a b).2 hf
        have D1 := D.of_w w1
        have hg : m1.moE b a ≠ 0 := fun h => by
          obtain ⟨h1, h2⟩ := moE_is h
          obtain ⟨bL, aL⟩ := D1.enE hb ha h1
          obtain ⟨s, hs, es⟩ := (mvX_is m1 b a).1 h
          rw [e2] at es
          have w2 : m2.w = (m1.mov b a).2.w := by rw [es]; exact mov_w D1 hs bL (PL_PB ha) aL
          obtain ⟨_, _, _, _, _, hc1⟩ := D1.mov rfl bL (PL_PB ha) aL
          have : m2.emB b = true := by
            unfold M.emB
            rw [gV_w w2, hc1 b (D.n0 (PL_PB hb)), if_pos rfl]; rfl
          rw [ro121 m2 this] at hh
          cases hh
        have w2 : m2.w = m.w := by rw [← e2]; exact ((mvX_is m1 b a).2 hg).trans w1
        have D2 := D.of_w w2
        obtain ⟨_, k2, k3, _, k5, k6⟩ := roE_is hh
        have bL := (D2.emf (PL_PB hb)).1 k2
        have aL := (D2.emf (PL_PB ha)).1 k3
        obtain ⟨s, hs, es⟩ := (roX_is m2 a b a).1 hh
        rw [e3] at es
        unfold M.roA at es
        rw [if_pos rfl] at es
        have w3 : m3.w = (m2.swp b a).2.w := by rw [es]; exact swp_w D2 hs bL aL hba
        obtain ⟨_, _, _, _, D3, hc3⟩ := D2.swp rfl bL aL hba
        have D3' := D3.of_w w3
        have hb1 : b ∈ L.map (oth b a) := List.mem_map.2 ⟨a, aL, oth_of_b hba⟩
        have ha1 : a ∈ L.map (oth b a) := List.mem_map.2 ⟨b, bL, oth_of_a⟩
        have cb : (m3.gV b).cap = (m.gV a).cap := by
          rw [gV_w w3, hc3 b (D.n0 (PL_PB hb)), if_pos rfl, gV_w w2]
        have ca : (m3.gV a).cap = (m.gV b).cap := by
          rw [gV_w w3, hc3 a (D.n0 (PL_PB ha)), if_neg hab, if_pos rfl, gV_w w2]
        have hi : m3.roE a b a = 0 := by
          unfold M.roE
          rw [if_neg (by rintro (h | h) <;> exact hba h), (D3'.emf (PL_PB hb)).2 hb1, (D3'.emf (PL_PB ha)).2 ha1, cb, ca, hfit a ha, hfit b hb]
          simp
        obtain ⟨s4, hs4, es4⟩ := (roX_is m3 a b a).1 hi
        rw [e4] at es4
        unfold M.roA at es4
        rw [if_pos rfl] at es4
        refine ⟨hf, hh, hi, ?_⟩
        rw [es4, ← w2]
        exact D2.back_swp bL aL hba (hs4.trans w3)
      · exact .inl ⟨hf, hh⟩
end
end Go.Proofs.YtpmobbehdpgnbaaGreat

/- Law 12: DeriveBack: the walk. -/
namespace Go.Proofs.YtpmobbehdpgnbaaGreat
open Go.D
open Nat (reduceAdd reducePow reduceMul reduceSub reduceLeDiff reduceLT reduceEqDiff)
open Int (reduceNeg reduceLE reduceEq reduceNe reduceToNat)
open Go.D renaming istep → zy, pickR → zx, bin1R → zw, un1R → zv, eqS → zu, eq1 → zq, cmpS → zp, cmp1 → zj, isNil → zk, shows → zg, result → zZ, q_cond_t → zV, q_cond_f → zU
open List renaming set → zY, replicate → zX
open Option renaming map → zW
open Nat renaming reduceAdd → zQ, reducePow → yz, reduceMul → yy, reduceSub → yx, reduceLeDiff → yw, reduceLT → yv, reduceEqDiff → yu
open Int renaming reduceNeg → yq, reduceLE → yj, reduceEq → yk, reduceNe → yg, reduceToNat → yZ, reducePow → yY, reduceLT → yX, reduceAdd → yW, reduceSub → yV, reduceMul → yU, reduceBEq → yQ, reduceBNe → xz
set_option linter.all false
set_option maxRecDepth 100000
set_option maxHeartbeats 8000000

def deriveBackS : FSpec := fun args h K => ∃ (s : S) (L : List Act) (p q : Int), args = [.s s, .s (.i .i64 p), .s (.i .i64 q)] ∧ IsArr Act.cl h s L ∧ (∀ x, x ∈ L → x.u) ∧ L.length ≤ 9223372036854775807 ∧ i64b p ∧ i64b q ∧ ∀ h', K (.s (.b true)) h'
noncomputable def TPq : Tab := addT 18 plcG (addT 23 mv9G (addT 24 ro9G (addT 22 dumpG (addT 25 sameWG (TPl)))))
theorem TPq_snd : TPq.Snd Tryz.prog := addT_snd ok18 plc_snd (addT_snd ok23 mv9_snd (addT_snd ok24 ro9_snd (addT_snd ok22 mdump_snd (addT_snd ok25 sameW_snd (TPl_snd)))))
theorem deriveBack_snd : Snd Tryz.prog 8 deriveBackS := (fwp_sound (Tab.snd_Γ TPq_snd) mixed Tryz.func8 dc8).weaken fun args h K hc hS => by
  obtain ⟨s, L, p, q, rfl, Hs, hu, l1, up, uq, hK⟩ := hS
  refine fwp_run (Tab.ok_Γ _) 400 ?_
  have hlen := fun ls h' => Hs.sl.len (ls := ls) (h := h')
  have hkn := Hs.sl.known
  have hnl := Hs.sl.noL
  simp (config := {maxSteps := 9999999}) only [EV0, zy, zx, zw, zv, zu, zq, zp, zj, zk, leT, zg, rvC, zZ, zY, zX, zW, ↓zV, ↓zU, reduceCtorEq, zQ, yz, yY, yy, yx, yw, yv, yu, yq, yX, yj, yk, yg, yW, yV, yU, yZ, yQ, xz, df8, TPq, TPl, awake12G, basedG, ↓hlen, ↓hkn, ↓hnl]
  refine loop_rule (α := Nat × M × M) [9, 25, 26, 27, 28, 29, 30, 31, 32, 33, 34, 35, 36, 37, 38, 39, 40] (fun x => [(9, .s (.i .i64 (x.1 : Int)))]) (fun _ => []) (fun x => wH h x.2.1 x.2.2 []) (fun x => x.1 ≤ L.length ∧ x.2.2.w = x.2.1.w ∧ (∃ Q, DI x.2.1 Q) ∧ fitsB x.2.1) (fun x => L.length - x.1) (0, baseC, baseM) ⟨Nat.zero_le _, baseC_w.symm, DI_base, fits_base⟩ ?_ ?_
  · refine Wk.same rfl rfl ?_
    simp (config := {maxSteps := 9999999}) only [EV0, zy, zx, zw, zv, zu, zq, zp, zj, zk, leT, zg, rvC, zZ, zY, zX, zW, ↓zV, ↓zU, reduceCtorEq, zQ, yz, yY, yy, yx, yw, yv, yu, yq, yX, yj, yk, yg, yW, yV, yU, yZ, yQ, xz, Int.natCast_zero]
  · rintro X ⟨i, m, r⟩ ⟨hi, hw, ⟨Q, D⟩, hfit⟩ IH
    simp only at hi hw D hfit ⊢
    by_cases h2 : i < L.length ∧ i < 60
    · obtain ⟨h1, h100⟩ := h2
      obtain ⟨d1, d2, d3, d4⟩ := idx h1 l1
      have c100 : (i : Int) < 60 := by omega
      obtain ⟨j, cc, st, room, hse, hj, hd⟩ := Hs.at h1
      obtain ⟨x, hx⟩ : ∃ x, nth actZ L i = x := ⟨_, rfl⟩
      have hxu : x.u := by rw [← hx]; exact hu _ (nth_mem h1)
      have hs : sub (arr Act.cl L) (i * 8) 8 = x.cl := by rw [← hx, nth_eq h1]; exact arr_sub Act.cl_len h1
      have hle : i * 8 + 8 ≤ (arr Act.cl L).length := by rw [arr_length Act.cl_len]; omega
      simp only [Act.cl] at hs
      obtain ⟨e1, Cf, hD, hF⟩ := D.act hw hxu
      have hob : ∀ m r, (wH h m r [])[j]? = _ := fun m r => wH_old hj m r []
      subst hse
      refine run_sound (Tab.ok_Γ _) 300 _ _ _ _ ?_
      simp (config := {maxSteps := 9999999}) only [EV0, zy, zx, zw, zv, zu, zq, zp, zj, zk, leT, zg, rvC, zZ, zY, zX, zW, ↓zV, ↓zU, reduceCtorEq, zQ, yz, yY, yy, yx, yw, yv, yu, yq, yX, yj, yk, yg, yW, yV, yU, yZ, yQ, xz, TPq, TPl, doesG, doesM, actF, act_eta, wldF_eq, ↓hlen, ↓hkn, ↓hnl, d1, d2, d3, d4, c100, hob, hd, hs, hle, Int.toNat_natCast]
      exact IH (i + 1, (m.act x).2, (r.ract x).2) _ (by simp only; omega) ⟨by simp only; omega, hD.w, hD.L, hD.fits hF hfit⟩ (Wk.same rfl rfl (by simp (config := {maxSteps := 9999999}) only [EV0, zy, zx, zw, zv, zu, zq, zp, zj, zk, leT, zg, rvC, zZ, zY, zX, zW, ↓zV, ↓zU, reduceCtorEq, zQ, yz, yY, yy, yx, yw, yv, yu, yq, yX, yj, yk, yg, yW, yV, yU, yZ, yQ, xz]))
    · have hex := exit2 h2
      clear IH h2
      simp only [show ((60 : Nat) : Int) = 60 from rfl] at hex
      have hB : ∀ (m' : M) (Y : List Blk), (wH h m' r Y)[h.length + 4]? = some ⟨.rw, [.p (.g (h.length + 2)) 0, .p (.g h.length) 0], 2⟩ := fun m' Y => wH_at h m' r Y
      have ha1 : ∀ (m' : M) (Y : List Blk), (wH h m' r Y)[h.length]? = some (MB (h.length + 1) r) := fun m' Y => wH_ra h m' r Y
      have hpP := plc_PL up
      have hqP := plc_PL uq
      obtain ⟨a, hae⟩ : ∃ a, plcV p = a := ⟨_, rfl⟩
      obtain ⟨b, hbe⟩ : ∃ b, plcV q = b := ⟨_, rfl⟩
      rw [hae] at hpP
      rw [hbe] at hqP
      obtain ⟨m1, e1⟩ : ∃ m1, m.mvX M.enX M.mov a b = m1 := ⟨_, rfl⟩
      obtain ⟨m2, e2⟩ : ∃ m2, m1.mvX M.enX M.mov b a = m2 := ⟨_, rfl⟩
      obtain ⟨m3, e3⟩ : ∃ m3, m2.roX a b a = m3 := ⟨_, rfl⟩
      obtain ⟨m4, e4⟩ : ∃ m4, m3.roX a b a = m4 := ⟨_, rfl⟩
      have hback := D.back hpP hqP hfit e1 e2 e3 e4
      obtain ⟨_, ⟨_, ⟨Q1, D1⟩, _⟩, _⟩ := D.mv rfl hpP hqP
      rw [e1] at D1
      obtain ⟨_, ⟨_, ⟨Q2, D2⟩, _⟩, _⟩ := D1.mv rfl hqP hpP
      rw [e2] at D2
      obtain ⟨_, ⟨_, ⟨Q3, D3⟩, _⟩, _⟩ := D2.ro rfl hpP hqP hpP
      rw [e3] at D3
      obtain ⟨_, ⟨_, ⟨Q4, D4⟩, _⟩, _⟩ := D3.ro rfl hpP hqP hpP
      rw [e4] at D4
      have l4 : m4.w.length = r.w.length := by rw [hw, D4.len, D.len]
      have lm : m.w.length = r.w.length := by rw [hw]
      have hx0 : m.has 0 r.w.length = true := M.has_of (by omega)
      have hx4 : m4.has 0 r.w.length = true := M.has_of (by omega)
      have w0 : m.w.take r.w.length = m.w := by rw [← lm]; exact List.take_length
      have w4 : m4.w.take r.w.length = m4.w := by rw [← l4]; exact List.take_length
      have hl := m.l
      have b0 : m.w.length ≤ 8796093022208 := by omega
      have b4 : m4.w.length ≤ 8796093022208 := by omega
      have hb5 : ∀ (B C : Blk), (wH h m4 r [B, C])[h.length + 5]? = some B := fun B C => by
        unfold wH; rw [List.getElem?_append_right (by simp only [memH_len]; omega)]; simp only [memH_len, show h.length + 5 - (h.length + 2 + 2) = 1 by omega]; rfl
      have hb6 : ∀ (B C : Blk), (wH h m4 r [B, C])[h.length + 5 + 1]? = some C := fun B C => by
        unfold wH; rw [List.getElem?_append_right (by simp only [memH_len]; omega)]; simp only [memH_len, show h.length + 5 + 1 - (h.length + 2 + 2) = 2 by omega]; rfl
      have hL1 : ∀ c c' : Nat, listOf (wH h m4 r [⟨BK.rw, wc m.w, c⟩, ⟨BK.rw, wc m4.w, c'⟩]) (.sl (.g (h.length + 5)) 0 r.w.length c) = some m.w := fun c c' => listOf_at (st := .rw) (room := c) (hb5 _ _) (fun x => BK.noConfusion x) lm
      have hL2 : ∀ c c' : Nat, listOf (wH h m4 r [⟨BK.rw, wc m.w, c⟩, ⟨BK.rw, wc m4.w, c'⟩]) (.sl (.g (h.length + 5 + 1)) 0 r.w.length c') = some m4.w := fun c c' => listOf_at (st := .rw) (room := c') (hb6 _ _) (fun x => BK.noConfusion x) l4
      obtain ⟨f, hf⟩ : ∃ f, m.moE a b = f := ⟨_, rfl⟩
      obtain ⟨g, hg⟩ : ∃ g, m1.moE b a = g := ⟨_, rfl⟩
      obtain ⟨u, hh⟩ : ∃ u, m2.roE a b a = u := ⟨_, rfl⟩
      obtain ⟨v, hv⟩ : ∃ v, m3.roE a b a = v := ⟨_, rfl⟩
      rw [hf, hg, hh, hv] at hback
      obtain ⟨sb, hsb⟩ : ∃ sb, decide (m.w = m4.w) = sb := ⟨_, rfl⟩
      rcases hex with ⟨f1, f2⟩ | ⟨f1, f2⟩
      all_goals
        rcases hback with ⟨k1, k2⟩ | ⟨k0, ⟨k1, k2⟩ | ⟨k1, k2, k3, k4⟩ | ⟨k1, k2, k3, k4⟩⟩
        · have q1 : (f == 0) = false := by simpa using k1
          have q2 : (a == b) = true := by simpa using k2
          refine run_sound (Tab.ok_Γ _) 300 _ _ _ _ ?_
          simp (config := {maxSteps := 9999999}) only [EV0, zy, zx, zw, zv, zu, zq, zp, zj, zk, leT, zg, rvC, zZ, zY, zX, zW, ↓zV, ↓zU, reduceCtorEq, zQ, yz, yY, yy, yx, yw, yv, yu, yq, yX, yj, yk, yg, yW, yV, yU, yZ, yQ, xz, TPq, TPl, ↓hlen, ↓hkn, ↓hnl, f1, f2, plcG, dumpG, dumpM, mv9G, mv9M, ro9G, ro9M, hB, ha1, MB, wH_m, wH_app, wH_len, hae, hbe, e1, e2, e3, e4, hx0, hx4, w0, w4, hf, hg, hh, hv, sameWG, hL1, hL2, b0, b4, hsb, q1, q2, bne, Int.toNat_natCast, put, fillP, EVt]
          intro c hc c' hc'
          exact hK _
        · have q1 : (f == 0) = false := by simpa using k1
          have q2 : (u == 0) = false := by simpa using k2
          have q3 : (a == b) = false := by simpa using k0
          refine run_sound (Tab.ok_Γ _) 300 _ _ _ _ ?_
          simp (config := {maxSteps := 9999999}) only [EV0, zy, zx, zw, zv, zu, zq, zp, zj, zk, leT, zg, rvC, zZ, zY, zX, zW, ↓zV, ↓zU, reduceCtorEq, zQ, yz, yY, yy, yx, yw, yv, yu, yq, yX, yj, yk, yg, yW, yV, yU, yZ, yQ, xz, TPq, TPl, ↓hlen, ↓hkn, ↓hnl, f1, f2, plcG, dumpG, dumpM, mv9G, mv9M, ro9G, ro9M, hB, ha1, MB, wH_m, wH_app, wH_len, hae, hbe, e1, e2, e3, e4, hx0, hx4, w0, w4, hf, hg, hh, hv, sameWG, hL1, hL2, b0, b4, hsb, q1, q2, q3, bne, Int.toNat_natCast, put, fillP, EVt]
          intro c hc c' hc'
          exact hK _
        · have q1 : (f == 0) = true := by simpa using k1
          have q2 : (g == 0) = true := by simpa using k2
          have q4 : (u == 0) = false := by simpa using k3
          have q3 : (a == b) = false := by simpa using k0
          have q5 : sb = true := by rw [← hsb]; simpa using k4.symm
          subst q5
          refine run_sound (Tab.ok_Γ _) 300 _ _ _ _ ?_
          simp (config := {maxSteps := 9999999}) only [EV0, zy, zx, zw, zv, zu, zq, zp, zj, zk, leT, zg, rvC, zZ, zY, zX, zW, ↓zV, ↓zU, reduceCtorEq, zQ, yz, yY, yy, yx, yw, yv, yu, yq, yX, yj, yk, yg, yW, yV, yU, yZ, yQ, xz, TPq, TPl, ↓hlen, ↓hkn, ↓hnl, f1, f2, plcG, dumpG, dumpM, mv9G, mv9M, ro9G, ro9M, hB, ha1, MB, wH_m, wH_app, wH_len, hae, hbe, e1, e2, e3, e4, hx0, hx4, w0, w4, hf, hg, hh, hv, sameWG, hL1, hL2, b0, b4, hsb, q1, q2, q3, q4, bne, Int.toNat_natCast, put, fillP, EVt]
          intro c hc c' hc'
          exact hK _
        · have q1 : (f == 0) = false := by simpa using k1
          have q2 : (u == 0) = true := by simpa using k2
          have q4 : (v == 0) = true := by simpa using k3
          have q3 : (a == b) = false := by simpa using k0
          have q5 : sb = true := by rw [← hsb]; simpa using k4.symm
          subst q5
          refine run_sound (Tab.ok_Γ _) 300 _ _ _ _ ?_
          simp (config := {maxSteps := 9999999}) only [EV0, zy, zx, zw, zv, zu, zq, zp, zj, zk, leT, zg, rvC, zZ, zY, zX, zW, ↓zV, ↓zU, reduceCtorEq, zQ, yz, yY, yy, yx, yw, yv, yu, yq, yX, yj, yk, yg, yW, yV, yU, yZ, yQ, xz, TPq, TPl, ↓hlen, ↓hkn, ↓hnl, f1, f2, plcG, dumpG, dumpM, mv9G, mv9M, ro9G, ro9M, hB, ha1, MB, wH_m, wH_app, wH_len, hae, hbe, e1, e2, e3, e4, hx0, hx4, w0, w4, hf, hg, hh, hv, sameWG, hL1, hL2, b0, b4, hsb, q1, q2, q3, q4, bne, Int.toNat_natCast, put, fillP, EVt]
          intro c hc c' hc'
          exact hK _
end Go.Proofs.YtpmobbehdpgnbaaGreat

/- DeriveBack: for every input the law's Go function answers true, and its arguments read behind the call as before. No conditions. -/
namespace Go.Proofs.YtpmobbehdpgnbaaGreat
open Go.D
set_option linter.all false
set_option maxRecDepth 100000

theorem deriveBack_law : Law deriveBackS [(false, [.slice ActT]), (false, [.int .i64]), (false, [.int .i64])] := by
  intro h us H hc
  obtain ⟨_, _, rfl, H1, H⟩ := lawC H
  obtain ⟨_, _, rfl, H2, H⟩ := lawC H
  obtain ⟨_, _, rfl, H3, H⟩ := lawC H
  obtain rfl := lawN H
  obtain ⟨s, L, rfl, e1, e2, e3⟩ := hasV_slice (c := Act.cl) (p := Act.u) (fun ss h => hasTs_act h) H1
  obtain ⟨p, rfl, up⟩ := hasV_int H2
  obtain ⟨q, rfl, uq⟩ := hasV_int H3
  exact ⟨s, L, p, q, rfl, e1, e2, by omega, i64_b up, i64_b uq, fun _ => rfl⟩
theorem deriveBack_row : RowOk Tryz.prog 8 Tryz.f8 Rows.deriveBackSpec [(false, [.slice ActT]), (false, [.int .i64]), (false, [.int .i64])] where
  own := own
  noTabs := rfl
  noInit := by kernel_rfl
  isf := Tryz.func8
  laid := laid
  rowed := rowed
  full := full
  params := by kernel_rfl
  vars := rfl
  ret := ⟨_, rfl, by kernel_rfl⟩
  spec := fun H ds e => by
    match ds, e with
    | [_, _, _], _ => rfl
  tys := ⟨20, by kernel_rfl⟩
theorem deriveBack_holds : Rows.DeriveBackSaid :=
  OpenClaim.holds_of_wide 8 Tryz.f8 rfl rfl rfl rfl rfl rfl rfl ⟨rfl, rfl, rfl, rfl, rfl⟩ rfl rfl rfl rfl rfl (by kernel_rfl) Tryz.func8 (by kernel_rfl)
    (of_decide_eq_true (by kernel_rfl)) (by unfold Func.isWrapper; first | (rw [if_pos (by decide +kernel)]; kernel_rfl) | (rw [if_neg (by decide +kernel)]; exact ⟨rfl, rfl⟩))
    (fun os started H enc _ => deriveBack_row.lifted (C := Tryz.checked) deriveBack_snd deriveBack_law started (ChangeSpec.witness6 (enc := enc) (C := Tryz.checked) false ⟨#[], #[.slice none 0 0, .int .i64 0, .int .i64 0], []⟩ 8 (by kernel_rfl) (by kernel_rfl) (by kernel_rfl) (by kernel_rfl)))
end Go.Proofs.YtpmobbehdpgnbaaGreat

